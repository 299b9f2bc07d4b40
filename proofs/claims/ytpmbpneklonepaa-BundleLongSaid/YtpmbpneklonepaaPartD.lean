/- Proved in the end (in the last text of this claim): the law of this seat returns true at every input that fits, and each argument reads behind the call as before. This text: part 4 of the proof: a pure interpreter of the code, shown sound once, and the walks of the functions by rewriting. -/
import Derived.Test.YtpmbpneklonepaaProg
import Derived.Test.YtpmbpneklonepaaPartC
set_option linter.unusedSimpArgs false
set_option linter.unusedVariables false
/- Of this seat: hints, types. Printed by a program of mine (SeatGen). -/
namespace Go.Proofs.Try
open Go Go.Sim Go.Sim.PV
def X : FuncId → Option (List PV → Option PV) := fun i => if i = 35 then some joinX else none
noncomputable def H : FuncId → Hint
  | 2 => { take := [], wr := [], carry := [], mask := [false], cmask := [false], lm := [] }
  | 3 => { take := [41], wr := [], carry := [], mask := [true, true, true, false, false, false, true, true, true, true, true, true, true, true, false, false, false, false, false, false, false, false, false, false, false, false, false, false, false, false, false, false, false, false, false, false, false, false, false, false, false, false, false, false, false, false, true, false, false, false, false, false, true, false, false, false, false, false, false, false, false, false, false, false, false, false, false, false, false, false, false, false, false, false, false, false, false, false], cmask := [true, true, true, false, false, false, true, true, true, true, true, true, true, true, false, false, false, false, false, false, false, false, false, false, false, false, false, false, false, false, false, false, false, false, false, false, false, false, false, false, false, false, false, false, false, false, false, false, false, false, false, false, false, false, false, false, false, false, false, false, false, false, false, false, false, false, false, false, false, false, false, false, false, false, false, false, false, false], lm := [] }
  | 4 => { take := [24], wr := [], carry := [], mask := [true, true, true, true, true, true, true, false, true, true, false, false, false, true, false, false, false, false, true, true, true, true, false, false, false, false, false, false, false, false, false, false, false, false, false, false, false, false, false, false, false, false, false, false, false, false, false, false, false, false, false, false, false, false, false, false, true, false], cmask := [true, true, true, true, true, true, true, false, true, true, false, false, false, false, false, false, false, false, true, true, true, false, false, false, false, false, false, false, false, false, false, false, false, false, false, false, false, false, false, false, false, false, false, false, false, false, false, false, false, false, false, false, false, false, false, false, false, false], lm := [(7, [false, true, false, false, false, true, true, false, false, false, false, false, false, false, false, false, false, false, true, true, true, false, false, false, false, false, false, false, false, false, false, false, false, false, false, false, false, false, false, false, false, false, false, false, false, false, false, false, false, false, false, false, false, false, false, false, false, false])] }
  | 5 => { take := [], wr := [], carry := [], mask := [true, true, true, true, true, true, false, true, false, true, false, true, true, true, true, true, true, true, true, true, false, false, false, true, false, false, true, true, true, true, false, false, false, false, false, false, false, false, false, true, true, true, true, false, false, false, false, false, false, false, false, false, true, true, true, true, false, false, false, false, false, false, false, false, false, true, false, false, false, false, false, false, false, false, true, false, false, false, false, false, false, false, false, false, true, false, false, false, false, false, false, false, true, true, false, false, false, false, false, false, false, false, false, false, false, true, false, false, false, false, false, false, false, false, false, false], cmask := [true, true, true, true, true, true, false, true, false, true, false, true, true, true, true, true, true, true, true, true, false, false, false, false, false, false, true, true, true, false, false, false, false, false, false, false, false, false, false, true, true, true, false, false, false, false, false, false, false, false, false, false, true, true, true, false, false, false, false, false, false, false, false, false, false, false, false, false, false, false, false, false, false, false, false, false, false, false, false, false, false, false, false, false, false, false, false, false, false, false, false, false, true, false, false, false, false, false, false, false, false, false, false, false, false, false, false, false, false, false, false, false, false, false, false, false], lm := [(6, [false, true, false, false, false, true, false, false, false, false, false, false, false, false, false, false, false, false, false, false, false, false, false, false, false, false, true, true, true, false, false, false, false, false, false, false, false, false, false, false, false, false, false, false, false, false, false, false, false, false, false, false, false, false, false, false, false, false, false, false, false, false, false, false, false, false, false, false, false, false, false, false, false, false, false, false, false, false, false, false, false, false, false, false, false, false, false, false, false, false, false, false, false, false, false, false, false, false, false, false, false, false, false, false, false, false, false, false, false, false, false, false, false, false, false, false]), (11, [false, true, false, false, false, true, false, false, false, false, false, false, false, false, false, false, false, false, false, false, false, false, false, false, false, false, false, false, false, false, false, false, false, false, false, false, false, false, false, true, true, true, false, false, false, false, false, false, false, false, false, false, false, false, false, false, false, false, false, false, false, false, false, false, false, false, false, false, false, false, false, false, false, false, false, false, false, false, false, false, false, false, false, false, false, false, false, false, false, false, false, false, false, false, false, false, false, false, false, false, false, false, false, false, false, false, false, false, false, false, false, false, false, false, false, false]), (16, [false, false, false, false, false, true, false, false, false, false, false, false, false, false, false, false, false, false, false, false, false, false, false, false, false, false, false, false, false, false, false, false, false, false, false, false, false, false, false, false, false, false, false, false, false, false, false, false, false, false, false, false, true, true, true, false, false, false, false, false, false, false, false, false, false, false, false, false, false, false, false, false, false, false, false, false, false, false, false, false, false, false, false, false, false, false, false, false, false, false, false, false, false, false, false, false, false, false, false, false, false, false, false, false, false, false, false, false, false, false, false, false, false, false, false, false]), (31, [false, false, false, false, false, true, false, false, false, false, false, false, false, false, false, false, true, false, false, false, false, false, false, false, false, false, false, false, false, false, false, false, false, false, false, false, false, false, false, false, false, false, false, false, false, false, false, false, false, false, false, false, false, false, false, false, false, false, false, false, false, false, false, false, false, false, false, false, false, false, false, false, false, false, false, false, false, false, false, false, false, false, false, false, false, false, false, false, false, false, false, false, true, false, false, false, false, false, false, false, false, false, false, false, false, false, false, false, false, false, false, false, false, false, false, false])] }
  | 6 => { take := [], wr := [], carry := [], mask := [true, true, true, true, true, true, true, false, false, false, false, false, false, false, false, false, false, false, false, false, false, false, false, false, false, false, false, false, false, false, false, false, false, false, false, false, false, false, false, false, false, false, false, false, false, false, false, false, false, false], cmask := [true, true, true, true, true, true, true, false, false, false, false, false, false, false, false, false, false, false, false, false, false, false, false, false, false, false, false, false, false, false, false, false, false, false, false, false, false, false, false, false, false, false, false, false, false, false, false, false, false, false], lm := [] }
  | 7 => { take := [], wr := [], carry := [], mask := [true, true, true, false, true, false, true, true, false, true, true, false, false, false, false, false, false, false, false, false, false, false, false, false, false, false, true, false, false, false, false, true, true, true, true, false, false, true, true, true, true, false, false, false, false, false, true, false, false, false, false, true, true, true, true, false, false, false, false, false, true, false, false], cmask := [true, true, true, false, true, false, true, true, false, true, true, false, false, false, false, false, false, false, false, false, false, false, false, false, false, false, false, false, false, false, false, true, true, true, false, false, false, true, true, true, false, false, false, false, false, false, false, false, false, false, false, true, true, true, false, false, false, false, false, false, false, false, false], lm := [(4, [false, true, false, false, false, false, false, false, false, false, false, false, false, false, false, false, false, false, false, false, false, false, false, false, false, false, false, false, false, false, false, true, true, true, false, false, false, false, false, false, false, false, false, false, false, false, false, false, false, false, false, false, false, false, false, false, false, false, false, false, false, false, false]), (7, [false, true, false, false, false, false, false, false, false, false, false, false, false, false, false, false, false, false, false, false, false, false, false, false, false, false, false, false, false, false, false, true, true, true, false, false, false, true, true, true, false, false, false, false, false, false, false, false, false, false, false, false, false, false, false, false, false, false, false, false, false, false, false]), (15, [false, false, false, false, false, false, false, false, false, false, false, false, false, false, false, false, false, false, false, false, false, false, false, false, false, false, false, false, false, false, false, false, false, false, false, false, false, false, false, false, false, false, false, false, false, false, false, false, false, false, false, true, true, true, false, false, false, false, false, false, false, false, false])] }
  | 8 => { take := [], wr := [], carry := [], mask := [true, true, false, false, true, false, false, false], cmask := [true, true, false, false, true, false, false, false], lm := [] }
  | 9 => { take := [], wr := [], carry := [], mask := [true, true, true, false, false, false, true, false, true, true, true, true, true, false, false, false, true, false, false, false, false, false], cmask := [true, true, true, false, false, false, true, false, true, true, true, true, false, false, false, false, false, false, false, false, false, false], lm := [(2, [true, true, true, false, false, false, false, false, false, true, true, true, false, false, false, false, false, false, false, false, false, false])] }
  | 10 => { take := [], wr := [], carry := [], mask := [true, false, true, false, false, false, false], cmask := [true, false, true, false, false, false, false], lm := [] }
  | 11 => { take := [], wr := [], carry := [], mask := [true, true, true, false, true, false, true, true, false, true, false, true, true, false, false, false, false, false, false, false, false, false, false, false, false, false, false, false, true, false, false, false, false, true, true, true, true, false, false, true, true, true, true, false, false, false, false, false, true, false, false, false, false, true, true, true, true, false, false, false, false, false, false, false, false, false, true, false, false, false, false, true, true, true, true, false, false, false, true, false, false, false, true, false, false, false], cmask := [true, true, true, false, true, false, true, true, false, true, false, true, true, false, false, false, false, false, false, false, false, false, false, false, false, false, false, false, false, false, false, false, false, true, true, true, false, false, false, true, true, true, false, false, false, false, false, false, false, false, false, false, false, true, true, true, false, false, false, false, false, false, false, false, false, false, false, false, false, false, false, true, true, true, false, false, false, false, false, false, false, false, false, false, false, false], lm := [(4, [false, true, false, false, false, false, false, false, false, false, false, false, false, false, false, false, false, false, false, false, false, false, false, false, false, false, false, false, false, false, false, false, false, true, true, true, false, false, false, false, false, false, false, false, false, false, false, false, false, false, false, false, false, false, false, false, false, false, false, false, false, false, false, false, false, false, false, false, false, false, false, false, false, false, false, false, false, false, false, false, false, false, false, false, false, false]), (7, [false, true, false, false, false, false, false, false, false, false, false, false, false, false, false, false, false, false, false, false, false, false, false, false, false, false, false, false, false, false, false, false, false, true, true, true, false, false, false, true, true, true, false, false, false, false, false, false, false, false, false, false, false, false, false, false, false, false, false, false, false, false, false, false, false, false, false, false, false, false, false, false, false, false, false, false, false, false, false, false, false, false, false, false, false, false]), (15, [false, false, false, false, false, false, false, false, false, false, false, false, false, false, false, false, false, false, false, false, false, false, false, false, false, false, false, false, false, false, false, false, false, false, false, false, false, false, false, false, false, false, false, false, false, false, false, false, false, false, false, false, false, true, true, true, false, false, false, false, false, false, false, false, false, false, false, false, false, false, false, false, false, false, false, false, false, false, false, false, false, false, false, false, false, false]), (20, [false, false, false, false, false, false, false, false, false, false, false, false, false, false, false, false, false, false, false, false, false, false, false, false, false, false, false, false, false, false, false, false, false, false, false, false, false, false, false, false, false, false, false, false, false, false, false, false, false, false, false, false, false, true, true, true, false, false, false, false, false, false, false, false, false, false, false, false, false, false, false, true, true, true, false, false, false, false, false, false, false, false, false, false, false, false])] }
  | 12 => { take := [], wr := [], carry := [], mask := [true, true, false, false, true, true, false, true, false, false, false, false, false, false], cmask := [true, true, false, false, true, true, false, false, false, false, false, false, false, false], lm := [] }
  | 13 => { take := [], wr := [], carry := [], mask := [true, true, false, false, true, true, true, true, false, false, false, false, false, false, false, true, false], cmask := [true, true, false, false, true, true, true, true, false, false, false, false, false, false, false, false, false], lm := [] }
  | 14 => { take := [22, 32, 42, 51, 66, 69, 79, 85, 87], wr := [], carry := [], mask := [true, false, true, true, true, true, true, true, true, false, true, true, true, true, true, false, false, false, false, false, false, true, false, false, false, false, false, false, false, false, false, true, false, false, false, false, false, false, false, false, false, true, false, false, false, false, false, false, false, false, true, false, false, true, true, true, true, false, false, false, false, false, false, false, false, true, false, false, false, false, false, false, false, false, false, false, false, false, true, false, false, false, false, false, true, false, false, false], cmask := [true, false, true, true, true, true, true, true, true, false, true, true, true, true, true, false, false, false, false, false, false, false, false, false, false, false, false, false, false, false, false, false, false, false, false, false, false, false, false, false, false, false, false, false, false, false, false, false, false, false, false, false, false, true, true, true, false, false, false, false, false, false, false, false, false, false, false, false, false, false, false, false, false, false, false, false, false, false, false, false, false, false, false, false, false, false, false, false], lm := [(15, [false, false, true, false, true, true, true, false, false, false, false, false, false, false, false, false, false, false, false, false, false, false, false, false, false, false, false, false, false, false, false, false, false, false, false, false, false, false, false, false, false, false, false, false, false, false, false, false, false, false, false, false, false, true, true, true, false, false, false, false, false, false, false, false, false, false, false, false, false, false, false, false, false, false, false, false, false, false, false, false, false, false, false, false, false, false, false, false])] }
  | 15 => { take := [], wr := [], carry := [], mask := [true, false, true, true, false, false, false, true, false, false, false, true], cmask := [true, false, true, true, false, false, false, false, false, false, false, false], lm := [] }
  | 16 => { take := [], wr := [], carry := [], mask := [true, true, true, false, true, true, false, false, false, false, false, false, false, true, false, false, false, false, true, true, true, true, false, false, false, true, false, false, false, true, false, false], cmask := [true, true, true, false, true, true, false, false, false, false, false, false, false, false, false, false, false, false, true, true, true, false, false, false, false, false, false, false, false, false, false, false], lm := [(4, [false, false, false, false, false, false, false, false, false, false, false, false, false, false, false, false, false, false, true, true, true, false, false, false, false, false, false, false, false, false, false, false])] }
  | 17 => { take := [], wr := [], carry := [], mask := [true, true, true, false, false, false, true, false, false, false, false, false, false, false], cmask := [true, true, true, false, false, false, true, false, false, false, false, false, false, false], lm := [] }
  | 18 => { take := [], wr := [], carry := [], mask := [true, false, true, true, false, false, false, true, false, false, false, true], cmask := [true, false, true, true, false, false, false, false, false, false, false, false], lm := [] }
  | 19 => { take := [], wr := [], carry := [], mask := [true, true, false, false, true, true, true, false, true, true, true, false, false, false, false, false, false, false, false, false, false, true, true, true, true, true, false, false, false, false, false, false, false, false, false, true, false, false, false, false, false, true, false, false, false, false, false, false, false, false, false, false, false, false, false, true, false, false, false, false, false, false, false, false, false, false, true, false, false, false, false, false, false, false, false, false, false, false], cmask := [true, true, false, false, true, true, true, false, true, true, true, false, false, false, false, false, false, false, false, false, false, false, true, true, true, false, false, false, false, false, false, false, false, false, false, false, false, false, false, false, false, false, false, false, false, false, false, false, false, false, false, false, false, false, false, false, false, false, false, false, false, false, false, false, false, false, false, false, false, false, false, false, false, false, false, false, false, false], lm := [(5, [true, false, false, false, false, false, true, false, false, false, false, false, false, false, false, false, false, false, false, false, false, false, true, true, true, false, false, false, false, false, false, false, false, false, false, false, false, false, false, false, false, false, false, false, false, false, false, false, false, false, false, false, false, false, false, false, false, false, false, false, false, false, false, false, false, false, false, false, false, false, false, false, false, false, false, false, false, false])] }
  | 20 => { take := [], wr := [], carry := [], mask := [true, true, false, false, true, true, true, true, false, false, false, false, false, false, false, true, false, false, false, false, false, false], cmask := [true, true, false, false, true, true, true, true, false, false, false, false, false, false, false, false, false, false, false, false, false, false], lm := [] }
  | 21 => { take := [39, 45], wr := [], carry := [], mask := [true, true, false, false, true, true, true, true, true, true, true, false, true, false, false, false, false, false, false, false, true, false, false, false, false, false, false, false, true, false, false, false, true, true, true, true, true, false, false, false, false, false, false, false, false, false], cmask := [true, true, false, false, true, true, true, true, true, true, true, false, true, false, false, false, false, false, false, false, false, false, false, false, false, false, false, false, false, false, false, false, false, true, true, true, false, false, false, false, false, false, false, false, false, false], lm := [(11, [false, false, false, false, false, false, false, false, false, false, true, false, false, false, false, false, false, false, false, false, false, false, false, false, false, false, false, false, false, false, false, false, false, true, true, true, false, false, false, false, false, false, false, false, false, false])] }
  | 22 => { take := [], wr := [], carry := [], mask := [true, false, true, true, true, true, true, false, false, false, false, false, false, true, false, false, false, false, false, false, false, false, false, true, false, false, false, false, false, false, false, false, false, true, false, false, false, false, false], cmask := [true, false, true, true, true, true, true, false, false, false, false, false, false, false, false, false, false, false, false, false, false, false, false, false, false, false, false, false, false, false, false, false, false, false, false, false, false, false, false], lm := [] }
  | 23 => { take := [], wr := [], carry := [], mask := [true, false, true, false, false, false, false, false, true], cmask := [true, false, true, false, false, false, false, false, false], lm := [] }
  | 24 => { take := [], wr := [], carry := [], mask := [true, false, true, true, true, false, false, false, false, false, false, true, false, false, false], cmask := [true, false, true, true, true, false, false, false, false, false, false, false, false, false, false], lm := [] }
  | 25 => { take := [], wr := [], carry := [], mask := [true, true, true, false, false, false, true, false, false, false, false, false, false, false, false, false, false, false, false], cmask := [true, true, true, false, false, false, true, false, false, false, false, false, false, false, false, false, false, false, false], lm := [] }
  | 26 => { take := [54, 62, 70, 40], wr := [], carry := [], mask := [true, true, false, false, true, true, true, false, true, true, false, false, false, false, false, false, false, false, false, false, true, true, true, true, true, false, false, false, false, false, false, true, false, false, false, false, false, false, false, false, false, false, false, false, false, false, false, false, false, false, false, true, false, false, false, false, false, false, false, true, false, false, false, false, false, false, false, true, false, false, false, false, false, false, false, false, false, false, false, false, false, false, false], cmask := [true, true, false, false, true, true, true, false, true, true, false, false, false, false, false, false, false, false, false, false, false, true, true, true, false, false, false, false, false, false, false, false, false, false, false, false, false, false, false, false, false, false, false, false, false, false, false, false, false, false, false, false, false, false, false, false, false, false, false, false, false, false, false, false, false, false, false, false, false, false, false, false, false, false, false, false, false, false, false, false, false, false, false], lm := [(5, [true, true, false, false, false, false, true, false, false, false, false, false, false, false, false, false, false, false, false, false, false, true, true, true, false, false, false, false, false, false, false, false, false, false, false, false, false, false, false, false, false, false, false, false, false, false, false, false, false, false, false, false, false, false, false, false, false, false, false, false, false, false, false, false, false, false, false, false, false, false, false, false, false, false, false, false, false, false, false, false, false, false, false])] }
  | 27 => { take := [], wr := [], carry := [], mask := [true, false, true, true, true, false, false, false, false, false, false, true, false, false, false], cmask := [true, false, true, true, true, false, false, false, false, false, false, false, false, false, false], lm := [] }
  | 28 => { take := [], wr := [], carry := [], mask := [true, true, false, false, true, true, true, true, false, false, false, false, false, false, true, false, false, false, false, false, true, false, false], cmask := [true, true, false, false, true, true, true, true, false, false, false, false, false, false, false, false, false, false, false, false, false, false, false], lm := [] }
  | 29 => { take := [14], wr := [], carry := [], mask := [true, false, true, true, true, true, false, false, false, false, false, false, true, false, false, false, false], cmask := [true, false, true, true, true, true, false, false, false, false, false, false, false, false, false, false, false], lm := [] }
  | 30 => { take := [], wr := [], carry := [], mask := [true, true, false, false, true, true, true, false, false, false, false, false, false, false, false, false, false, false, false, false, false, false, false, true, false, false, false, false, false, false, false, false, false, false, false, false, false, false, false, false], cmask := [true, true, false, false, true, true, true, false, false, false, false, false, false, false, false, false, false, false, false, false, false, false, false, false, false, false, false, false, false, false, false, false, false, false, false, false, false, false, false, false], lm := [] }
  | 31 => { take := [19, 24], wr := [], carry := [], mask := [true, false, true, true, true, true, true, true, false, true, false, false, false, false, false, false, false, true, false, false, false, false, false, false, false], cmask := [true, false, true, true, true, true, true, true, false, false, false, false, false, false, false, false, false, false, false, false, false, false, false, false, false], lm := [(2, [true, false, false, false, true, false, false, false, false, false, false, false, false, false, false, false, false, false, false, false, false, false, false, false, false])] }
  | 32 => { take := [], wr := [], carry := [], mask := [true, true, false, false, true, true, true, true, true, true, false, false, false, false, false, false, false, true, false, false, false, false, false, false, false, false, false], cmask := [true, true, false, false, true, true, true, true, true, true, false, false, false, false, false, false, false, false, false, false, false, false, false, false, false, false, false], lm := [] }
  | 33 => { take := [], wr := [], carry := [], mask := [true, false, true, true, true, true, true, false, false, false, false, false, false, false, true, false, false, false, true, false, false], cmask := [true, false, true, true, true, true, true, false, false, false, false, false, false, false, false, false, false, false, false, false, false], lm := [] }
  | 34 => { take := [], wr := [], carry := [], mask := [true, true, true, false, true, true, true, true, true, true, false, false, false, true, false, false, false, true, false, false, false, false, false, false, false, true, false, false, true, false, false, false, false, false, true, false, false], cmask := [true, true, true, false, true, true, true, true, true, true, false, false, false, false, false, false, false, false, false, false, false, false, false, false, false, false, false, false, false, false, false, false, false, false, false, false, false], lm := [(4, [false, true, false, false, false, true, false, false, false, false, false, false, false, false, false, false, false, false, false, false, false, false, false, false, false, false, false, false, false, false, false, false, false, false, false, false, false])] }
  | 35 => { take := [], wr := [], carry := [], mask := [true, true, false, false, true, true, false, true, true, false, true, false, true, true, false, true, false, false, false, false, false, false, true, false, false, false, false, false, false, true, false, false, false, false, false, false, false, false, false, true, true, true, true, false, false, false, false, false, false, true, false, false, false, false, false, false, false, false, false, false, false, false, false, true, true, true, true, false, false, false, false, false, false, false, false], cmask := [true, true, false, false, true, true, false, true, true, false, true, false, true, false, false, false, false, false, false, false, false, false, false, false, false, false, false, false, false, false, false, false, false, false, false, false, false, false, false, true, true, true, false, false, false, false, false, false, false, false, false, false, false, false, false, false, false, false, false, false, false, false, false, true, true, true, false, false, false, false, false, false, false, false, false], lm := [(12, [true, true, false, false, false, true, false, false, false, false, false, false, false, false, false, false, false, false, false, false, false, false, false, false, false, false, false, false, false, false, false, false, false, false, false, false, false, false, false, true, true, true, false, false, false, false, false, false, false, false, false, false, false, false, false, false, false, false, false, false, false, false, false, false, false, false, false, false, false, false, false, false, false, false, false]), (22, [false, true, false, false, false, false, false, false, true, false, false, false, false, false, false, false, false, false, false, false, false, false, false, false, false, false, false, false, false, false, false, false, false, false, false, false, false, false, false, false, false, false, false, false, false, false, false, false, false, false, false, false, false, false, false, false, false, false, false, false, false, false, false, true, true, true, false, false, false, false, false, false, false, false, false])] }
  | 36 => { take := [], wr := [], carry := [], mask := [true, false, true, true, true, true, true, false, false, false, false, false, false, false, true, false, false, false, false, true, false, false], cmask := [true, false, true, true, true, true, true, false, false, false, false, false, false, false, false, false, false, false, false, false, false, false], lm := [] }
  | 37 => { take := [], wr := [], carry := [], mask := [true, true, true, false, true, true, true, true, true, true, false, false, false, false, true, false, false, false, false, true, false, false, false, false, false, false, false, true, false, false, false, true, false, false, false, false, false, true, false, false], cmask := [true, true, true, false, true, true, true, true, true, true, false, false, false, false, false, false, false, false, false, false, false, false, false, false, false, false, false, false, false, false, false, false, false, false, false, false, false, false, false, false], lm := [(4, [false, true, false, false, false, true, false, false, false, false, false, false, false, false, false, false, false, false, false, false, false, false, false, false, false, false, false, false, false, false, false, false, false, false, false, false, false, false, false, false])] }
  | 38 => { take := [], wr := [], carry := [], mask := [true, false, true, true, true, true, true, true, true, true, false, true, false, true, false, false, false, false, false, false, true, false, false, false, true, false, false, false, false, false, false, false, false, false, true, false, false, true, false, false, false, false, false, false, true, false, false, false, false, false, true, true, true, true, false, false, false, false, false, false, false, false, false, false, false, false, false, false, false, false, false, false, true, false, false, false, false, false, false, true, false, false, false, false, false, false, false, false, false, false, false, false, false, false, false, false, false, false, false], cmask := [true, false, true, true, true, true, true, true, true, true, false, true, false, false, false, false, false, false, false, false, false, false, false, false, false, false, false, false, false, false, false, false, false, false, false, false, false, false, false, false, false, false, false, false, false, false, false, false, false, false, true, true, true, false, false, false, false, false, false, false, false, false, false, false, false, false, false, false, false, false, false, false, false, false, false, false, false, false, false, false, false, false, false, false, false, false, false, false, false, false, false, false, false, false, false, false, false, false, false], lm := [(18, [true, false, true, false, false, true, true, true, true, true, false, false, false, false, false, false, false, false, false, false, false, false, false, false, false, false, false, false, false, false, false, false, false, false, false, false, false, false, false, false, false, false, false, false, false, false, false, false, false, false, true, true, true, false, false, false, false, false, false, false, false, false, false, false, false, false, false, false, false, false, false, false, false, false, false, false, false, false, false, false, false, false, false, false, false, false, false, false, false, false, false, false, false, false, false, false, false, false, false])] }
  | 39 => { take := [], wr := [], carry := [], mask := [true, true, false, false, false, false, false, true, false, false, false, false, false, false, false, false, false, false, false, false, false, true, false, false, false], cmask := [true, true, false, false, false, false, false, false, false, false, false, false, false, false, false, false, false, false, false, false, false, false, false, false, false], lm := [] }
  | 40 => { take := [12], wr := [], carry := [], mask := [true, true, false, false, true, true, false, false, false, false, false, false, false, false, false, false, false, false, false], cmask := [true, true, false, false, true, true, false, false, false, false, false, false, false, false, false, false, false, false, false], lm := [] }
  | 41 => { take := [], wr := [], carry := [], mask := [true, false, true, false, false, false, false, false, false, false, false, false, false, false], cmask := [true, false, true, false, false, false, false, false, false, false, false, false, false, false], lm := [] }
  | 42 => { take := [], wr := [], carry := [], mask := [true, false, true, true, true, true, true, true, true, true, true, false, false, false, true, false, false, false, false, true, false, false, false, true, false, false, false, false, false, false, false, false, false, true, false, false, true, false, false, false, false, false, false, true, false, false, false, true, false, false, false, false, false, false, false, false, false, false, false, false, false, false, false, false, false, false, false, false, false, false, true, false, false, false, false, false, false, true, false, false, false, false, false, false, false, false, false, false, false, false, false, false, false, false, false, false, false, false, false], cmask := [true, false, true, true, true, true, true, true, true, true, true, false, false, false, false, false, false, false, false, false, false, false, false, false, false, false, false, false, false, false, false, false, false, false, false, false, false, false, false, false, false, false, false, false, false, false, false, false, false, false, false, false, false, false, false, false, false, false, false, false, false, false, false, false, false, false, false, false, false, false, false, false, false, false, false, false, false, false, false, false, false, false, false, false, false, false, false, false, false, false, false, false, false, false, false, false, false, false, false], lm := [(17, [true, false, true, false, false, true, true, false, true, true, false, false, false, false, false, false, false, false, false, false, false, false, false, false, false, false, false, false, false, false, false, false, false, false, false, false, false, false, false, false, false, false, false, false, false, false, false, false, false, false, false, false, false, false, false, false, false, false, false, false, false, false, false, false, false, false, false, false, false, false, false, false, false, false, false, false, false, false, false, false, false, false, false, false, false, false, false, false, false, false, false, false, false, false, false, false, false, false, false])] }
  | 43 => { take := [], wr := [], carry := [], mask := [true, false, true, false, true, false, false, false, false, false], cmask := [true, false, true, false, false, false, false, false, false, false], lm := [] }
  | 44 => { take := [], wr := [], carry := [], mask := [true, false, false, false, false, false, true, false, false, false, false, false, false, false, false, false, false, false, false, true], cmask := [true, false, false, false, false, false, false, false, false, false, false, false, false, false, false, false, false, false, false, false], lm := [] }
  | 45 => { take := [], wr := [], carry := [], mask := [true, true, false, false, true, false, false, false, false, false, false, false, false, false, false, false, false, false, false, false, false, false, false, false, false, false, false, false, false, false], cmask := [true, true, false, false, true, false, false, false, false, false, false, false, false, false, false, false, false, false, false, false, false, false, false, false, false, false, false, false, false, false], lm := [] }
  | _ => {}
-- ntmps 2 1
theorem take2 : (H 2).take = [] := rfl
theorem wr2 : (H 2).wr = [] := rfl
theorem res2 : Try.f2.results.toList = [] := rfl
theorem carry2 : (H 2).carry = [] := rfl
theorem lm2 : (H 2).lm = [] := rfl
theorem cmask2 : (H 2).cmask = [false] := rfl
theorem mask2 : (H 2).mask = [false] := rfl
-- ntmps 3 78
theorem take3 : (H 3).take = [41] := rfl
theorem wr3 : (H 3).wr = [] := rfl
theorem res3 : Try.f3.results.toList = [.tmp 6] := rfl
theorem carry3 : (H 3).carry = [] := rfl
theorem lm3 : (H 3).lm = [] := rfl
theorem cmask3 : (H 3).cmask = [true, true, true, false, false, false, true, true, true, true, true, true, true, true, false, false, false, false, false, false, false, false, false, false, false, false, false, false, false, false, false, false, false, false, false, false, false, false, false, false, false, false, false, false, false, false, false, false, false, false, false, false, false, false, false, false, false, false, false, false, false, false, false, false, false, false, false, false, false, false, false, false, false, false, false, false, false, false] := rfl
theorem mask3 : (H 3).mask = [true, true, true, false, false, false, true, true, true, true, true, true, true, true, false, false, false, false, false, false, false, false, false, false, false, false, false, false, false, false, false, false, false, false, false, false, false, false, false, false, false, false, false, false, false, false, true, false, false, false, false, false, true, false, false, false, false, false, false, false, false, false, false, false, false, false, false, false, false, false, false, false, false, false, false, false, false, false] := rfl
-- ntmps 4 58
theorem take4 : (H 4).take = [24] := rfl
theorem wr4 : (H 4).wr = [] := rfl
theorem res4 : Try.f4.results.toList = [.tmp 2, .tmp 3] := rfl
theorem carry4 : (H 4).carry = [] := rfl
theorem lm4 : (H 4).lm = [(7, [false, true, false, false, false, true, true, false, false, false, false, false, false, false, false, false, false, false, true, true, true, false, false, false, false, false, false, false, false, false, false, false, false, false, false, false, false, false, false, false, false, false, false, false, false, false, false, false, false, false, false, false, false, false, false, false, false, false])] := rfl
theorem cmask4 : (H 4).cmask = [true, true, true, true, true, true, true, false, true, true, false, false, false, false, false, false, false, false, true, true, true, false, false, false, false, false, false, false, false, false, false, false, false, false, false, false, false, false, false, false, false, false, false, false, false, false, false, false, false, false, false, false, false, false, false, false, false, false] := rfl
theorem mask4 : (H 4).mask = [true, true, true, true, true, true, true, false, true, true, false, false, false, true, false, false, false, false, true, true, true, true, false, false, false, false, false, false, false, false, false, false, false, false, false, false, false, false, false, false, false, false, false, false, false, false, false, false, false, false, false, false, false, false, false, false, true, false] := rfl
-- ntmps 5 116
theorem take5 : (H 5).take = [] := rfl
theorem wr5 : (H 5).wr = [] := rfl
theorem res5 : Try.f5.results.toList = [.tmp 2, .tmp 3] := rfl
theorem carry5 : (H 5).carry = [] := rfl
theorem lm5 : (H 5).lm = [(6, [false, true, false, false, false, true, false, false, false, false, false, false, false, false, false, false, false, false, false, false, false, false, false, false, false, false, true, true, true, false, false, false, false, false, false, false, false, false, false, false, false, false, false, false, false, false, false, false, false, false, false, false, false, false, false, false, false, false, false, false, false, false, false, false, false, false, false, false, false, false, false, false, false, false, false, false, false, false, false, false, false, false, false, false, false, false, false, false, false, false, false, false, false, false, false, false, false, false, false, false, false, false, false, false, false, false, false, false, false, false, false, false, false, false, false, false]), (11, [false, true, false, false, false, true, false, false, false, false, false, false, false, false, false, false, false, false, false, false, false, false, false, false, false, false, false, false, false, false, false, false, false, false, false, false, false, false, false, true, true, true, false, false, false, false, false, false, false, false, false, false, false, false, false, false, false, false, false, false, false, false, false, false, false, false, false, false, false, false, false, false, false, false, false, false, false, false, false, false, false, false, false, false, false, false, false, false, false, false, false, false, false, false, false, false, false, false, false, false, false, false, false, false, false, false, false, false, false, false, false, false, false, false, false, false]), (16, [false, false, false, false, false, true, false, false, false, false, false, false, false, false, false, false, false, false, false, false, false, false, false, false, false, false, false, false, false, false, false, false, false, false, false, false, false, false, false, false, false, false, false, false, false, false, false, false, false, false, false, false, true, true, true, false, false, false, false, false, false, false, false, false, false, false, false, false, false, false, false, false, false, false, false, false, false, false, false, false, false, false, false, false, false, false, false, false, false, false, false, false, false, false, false, false, false, false, false, false, false, false, false, false, false, false, false, false, false, false, false, false, false, false, false, false]), (31, [false, false, false, false, false, true, false, false, false, false, false, false, false, false, false, false, true, false, false, false, false, false, false, false, false, false, false, false, false, false, false, false, false, false, false, false, false, false, false, false, false, false, false, false, false, false, false, false, false, false, false, false, false, false, false, false, false, false, false, false, false, false, false, false, false, false, false, false, false, false, false, false, false, false, false, false, false, false, false, false, false, false, false, false, false, false, false, false, false, false, false, false, true, false, false, false, false, false, false, false, false, false, false, false, false, false, false, false, false, false, false, false, false, false, false, false])] := rfl
theorem cmask5 : (H 5).cmask = [true, true, true, true, true, true, false, true, false, true, false, true, true, true, true, true, true, true, true, true, false, false, false, false, false, false, true, true, true, false, false, false, false, false, false, false, false, false, false, true, true, true, false, false, false, false, false, false, false, false, false, false, true, true, true, false, false, false, false, false, false, false, false, false, false, false, false, false, false, false, false, false, false, false, false, false, false, false, false, false, false, false, false, false, false, false, false, false, false, false, false, false, true, false, false, false, false, false, false, false, false, false, false, false, false, false, false, false, false, false, false, false, false, false, false, false] := rfl
theorem mask5 : (H 5).mask = [true, true, true, true, true, true, false, true, false, true, false, true, true, true, true, true, true, true, true, true, false, false, false, true, false, false, true, true, true, true, false, false, false, false, false, false, false, false, false, true, true, true, true, false, false, false, false, false, false, false, false, false, true, true, true, true, false, false, false, false, false, false, false, false, false, true, false, false, false, false, false, false, false, false, true, false, false, false, false, false, false, false, false, false, true, false, false, false, false, false, false, false, true, true, false, false, false, false, false, false, false, false, false, false, false, true, false, false, false, false, false, false, false, false, false, false] := rfl
-- ntmps 6 50
theorem take6 : (H 6).take = [] := rfl
theorem wr6 : (H 6).wr = [] := rfl
theorem res6 : Try.f6.results.toList = [.tmp 0] := rfl
theorem carry6 : (H 6).carry = [] := rfl
theorem lm6 : (H 6).lm = [] := rfl
theorem cmask6 : (H 6).cmask = [true, true, true, true, true, true, true, false, false, false, false, false, false, false, false, false, false, false, false, false, false, false, false, false, false, false, false, false, false, false, false, false, false, false, false, false, false, false, false, false, false, false, false, false, false, false, false, false, false, false] := rfl
theorem mask6 : (H 6).mask = [true, true, true, true, true, true, true, false, false, false, false, false, false, false, false, false, false, false, false, false, false, false, false, false, false, false, false, false, false, false, false, false, false, false, false, false, false, false, false, false, false, false, false, false, false, false, false, false, false, false] := rfl
-- ntmps 7 63
theorem take7 : (H 7).take = [] := rfl
theorem wr7 : (H 7).wr = [] := rfl
theorem res7 : Try.f7.results.toList = [.tmp 2] := rfl
theorem carry7 : (H 7).carry = [] := rfl
theorem lm7 : (H 7).lm = [(4, [false, true, false, false, false, false, false, false, false, false, false, false, false, false, false, false, false, false, false, false, false, false, false, false, false, false, false, false, false, false, false, true, true, true, false, false, false, false, false, false, false, false, false, false, false, false, false, false, false, false, false, false, false, false, false, false, false, false, false, false, false, false, false]), (7, [false, true, false, false, false, false, false, false, false, false, false, false, false, false, false, false, false, false, false, false, false, false, false, false, false, false, false, false, false, false, false, true, true, true, false, false, false, true, true, true, false, false, false, false, false, false, false, false, false, false, false, false, false, false, false, false, false, false, false, false, false, false, false]), (15, [false, false, false, false, false, false, false, false, false, false, false, false, false, false, false, false, false, false, false, false, false, false, false, false, false, false, false, false, false, false, false, false, false, false, false, false, false, false, false, false, false, false, false, false, false, false, false, false, false, false, false, true, true, true, false, false, false, false, false, false, false, false, false])] := rfl
theorem cmask7 : (H 7).cmask = [true, true, true, false, true, false, true, true, false, true, true, false, false, false, false, false, false, false, false, false, false, false, false, false, false, false, false, false, false, false, false, true, true, true, false, false, false, true, true, true, false, false, false, false, false, false, false, false, false, false, false, true, true, true, false, false, false, false, false, false, false, false, false] := rfl
theorem mask7 : (H 7).mask = [true, true, true, false, true, false, true, true, false, true, true, false, false, false, false, false, false, false, false, false, false, false, false, false, false, false, true, false, false, false, false, true, true, true, true, false, false, true, true, true, true, false, false, false, false, false, true, false, false, false, false, true, true, true, true, false, false, false, false, false, true, false, false] := rfl
-- ntmps 8 8
theorem take8 : (H 8).take = [] := rfl
theorem wr8 : (H 8).wr = [] := rfl
theorem res8 : Try.f8.results.toList = [.tmp 4] := rfl
theorem carry8 : (H 8).carry = [] := rfl
theorem lm8 : (H 8).lm = [] := rfl
theorem cmask8 : (H 8).cmask = [true, true, false, false, true, false, false, false] := rfl
theorem mask8 : (H 8).mask = [true, true, false, false, true, false, false, false] := rfl
-- ntmps 9 22
theorem take9 : (H 9).take = [] := rfl
theorem wr9 : (H 9).wr = [] := rfl
theorem res9 : Try.f9.results.toList = [.tmp 6] := rfl
theorem carry9 : (H 9).carry = [] := rfl
theorem lm9 : (H 9).lm = [(2, [true, true, true, false, false, false, false, false, false, true, true, true, false, false, false, false, false, false, false, false, false, false])] := rfl
theorem cmask9 : (H 9).cmask = [true, true, true, false, false, false, true, false, true, true, true, true, false, false, false, false, false, false, false, false, false, false] := rfl
theorem mask9 : (H 9).mask = [true, true, true, false, false, false, true, false, true, true, true, true, true, false, false, false, true, false, false, false, false, false] := rfl
-- ntmps 10 7
theorem take10 : (H 10).take = [] := rfl
theorem wr10 : (H 10).wr = [] := rfl
theorem res10 : Try.f10.results.toList = [.tmp 2] := rfl
theorem carry10 : (H 10).carry = [] := rfl
theorem lm10 : (H 10).lm = [] := rfl
theorem cmask10 : (H 10).cmask = [true, false, true, false, false, false, false] := rfl
theorem mask10 : (H 10).mask = [true, false, true, false, false, false, false] := rfl
-- ntmps 11 86
theorem take11 : (H 11).take = [] := rfl
theorem wr11 : (H 11).wr = [] := rfl
theorem res11 : Try.f11.results.toList = [.tmp 2] := rfl
theorem carry11 : (H 11).carry = [] := rfl
theorem lm11 : (H 11).lm = [(4, [false, true, false, false, false, false, false, false, false, false, false, false, false, false, false, false, false, false, false, false, false, false, false, false, false, false, false, false, false, false, false, false, false, true, true, true, false, false, false, false, false, false, false, false, false, false, false, false, false, false, false, false, false, false, false, false, false, false, false, false, false, false, false, false, false, false, false, false, false, false, false, false, false, false, false, false, false, false, false, false, false, false, false, false, false, false]), (7, [false, true, false, false, false, false, false, false, false, false, false, false, false, false, false, false, false, false, false, false, false, false, false, false, false, false, false, false, false, false, false, false, false, true, true, true, false, false, false, true, true, true, false, false, false, false, false, false, false, false, false, false, false, false, false, false, false, false, false, false, false, false, false, false, false, false, false, false, false, false, false, false, false, false, false, false, false, false, false, false, false, false, false, false, false, false]), (15, [false, false, false, false, false, false, false, false, false, false, false, false, false, false, false, false, false, false, false, false, false, false, false, false, false, false, false, false, false, false, false, false, false, false, false, false, false, false, false, false, false, false, false, false, false, false, false, false, false, false, false, false, false, true, true, true, false, false, false, false, false, false, false, false, false, false, false, false, false, false, false, false, false, false, false, false, false, false, false, false, false, false, false, false, false, false]), (20, [false, false, false, false, false, false, false, false, false, false, false, false, false, false, false, false, false, false, false, false, false, false, false, false, false, false, false, false, false, false, false, false, false, false, false, false, false, false, false, false, false, false, false, false, false, false, false, false, false, false, false, false, false, true, true, true, false, false, false, false, false, false, false, false, false, false, false, false, false, false, false, true, true, true, false, false, false, false, false, false, false, false, false, false, false, false])] := rfl
theorem cmask11 : (H 11).cmask = [true, true, true, false, true, false, true, true, false, true, false, true, true, false, false, false, false, false, false, false, false, false, false, false, false, false, false, false, false, false, false, false, false, true, true, true, false, false, false, true, true, true, false, false, false, false, false, false, false, false, false, false, false, true, true, true, false, false, false, false, false, false, false, false, false, false, false, false, false, false, false, true, true, true, false, false, false, false, false, false, false, false, false, false, false, false] := rfl
theorem mask11 : (H 11).mask = [true, true, true, false, true, false, true, true, false, true, false, true, true, false, false, false, false, false, false, false, false, false, false, false, false, false, false, false, true, false, false, false, false, true, true, true, true, false, false, true, true, true, true, false, false, false, false, false, true, false, false, false, false, true, true, true, true, false, false, false, false, false, false, false, false, false, true, false, false, false, false, true, true, true, true, false, false, false, true, false, false, false, true, false, false, false] := rfl
-- ntmps 12 14
theorem take12 : (H 12).take = [] := rfl
theorem wr12 : (H 12).wr = [] := rfl
theorem res12 : Try.f12.results.toList = [.tmp 4, .tmp 5] := rfl
theorem carry12 : (H 12).carry = [] := rfl
theorem lm12 : (H 12).lm = [] := rfl
theorem cmask12 : (H 12).cmask = [true, true, false, false, true, true, false, false, false, false, false, false, false, false] := rfl
theorem mask12 : (H 12).mask = [true, true, false, false, true, true, false, true, false, false, false, false, false, false] := rfl
-- ntmps 13 17
theorem take13 : (H 13).take = [] := rfl
theorem wr13 : (H 13).wr = [] := rfl
theorem res13 : Try.f13.results.toList = [.tmp 4, .tmp 5] := rfl
theorem carry13 : (H 13).carry = [] := rfl
theorem lm13 : (H 13).lm = [] := rfl
theorem cmask13 : (H 13).cmask = [true, true, false, false, true, true, true, true, false, false, false, false, false, false, false, false, false] := rfl
theorem mask13 : (H 13).mask = [true, true, false, false, true, true, true, true, false, false, false, false, false, false, false, true, false] := rfl
-- ntmps 14 88
theorem take14 : (H 14).take = [22, 32, 42, 51, 66, 69, 79, 85, 87] := rfl
theorem wr14 : (H 14).wr = [] := rfl
theorem res14 : Try.f14.results.toList = [.cell 2 26, .tmp 3] := rfl
theorem carry14 : (H 14).carry = [] := rfl
theorem lm14 : (H 14).lm = [(15, [false, false, true, false, true, true, true, false, false, false, false, false, false, false, false, false, false, false, false, false, false, false, false, false, false, false, false, false, false, false, false, false, false, false, false, false, false, false, false, false, false, false, false, false, false, false, false, false, false, false, false, false, false, true, true, true, false, false, false, false, false, false, false, false, false, false, false, false, false, false, false, false, false, false, false, false, false, false, false, false, false, false, false, false, false, false, false, false])] := rfl
theorem cmask14 : (H 14).cmask = [true, false, true, true, true, true, true, true, true, false, true, true, true, true, true, false, false, false, false, false, false, false, false, false, false, false, false, false, false, false, false, false, false, false, false, false, false, false, false, false, false, false, false, false, false, false, false, false, false, false, false, false, false, true, true, true, false, false, false, false, false, false, false, false, false, false, false, false, false, false, false, false, false, false, false, false, false, false, false, false, false, false, false, false, false, false, false, false] := rfl
theorem mask14 : (H 14).mask = [true, false, true, true, true, true, true, true, true, false, true, true, true, true, true, false, false, false, false, false, false, true, false, false, false, false, false, false, false, false, false, true, false, false, false, false, false, false, false, false, false, true, false, false, false, false, false, false, false, false, true, false, false, true, true, true, true, false, false, false, false, false, false, false, false, true, false, false, false, false, false, false, false, false, false, false, false, false, true, false, false, false, false, false, true, false, false, false] := rfl
-- ntmps 15 12
theorem take15 : (H 15).take = [] := rfl
theorem wr15 : (H 15).wr = [] := rfl
theorem res15 : Try.f15.results.toList = [.tmp 2] := rfl
theorem carry15 : (H 15).carry = [] := rfl
theorem lm15 : (H 15).lm = [] := rfl
theorem cmask15 : (H 15).cmask = [true, false, true, true, false, false, false, false, false, false, false, false] := rfl
theorem mask15 : (H 15).mask = [true, false, true, true, false, false, false, true, false, false, false, true] := rfl
-- ntmps 16 32
theorem take16 : (H 16).take = [] := rfl
theorem wr16 : (H 16).wr = [] := rfl
theorem res16 : Try.f16.results.toList = [.tmp 2] := rfl
theorem carry16 : (H 16).carry = [] := rfl
theorem lm16 : (H 16).lm = [(4, [false, false, false, false, false, false, false, false, false, false, false, false, false, false, false, false, false, false, true, true, true, false, false, false, false, false, false, false, false, false, false, false])] := rfl
theorem cmask16 : (H 16).cmask = [true, true, true, false, true, true, false, false, false, false, false, false, false, false, false, false, false, false, true, true, true, false, false, false, false, false, false, false, false, false, false, false] := rfl
theorem mask16 : (H 16).mask = [true, true, true, false, true, true, false, false, false, false, false, false, false, true, false, false, false, false, true, true, true, true, false, false, false, true, false, false, false, true, false, false] := rfl
-- ntmps 17 14
theorem take17 : (H 17).take = [] := rfl
theorem wr17 : (H 17).wr = [] := rfl
theorem res17 : Try.f17.results.toList = [.tmp 6] := rfl
theorem carry17 : (H 17).carry = [] := rfl
theorem lm17 : (H 17).lm = [] := rfl
theorem cmask17 : (H 17).cmask = [true, true, true, false, false, false, true, false, false, false, false, false, false, false] := rfl
theorem mask17 : (H 17).mask = [true, true, true, false, false, false, true, false, false, false, false, false, false, false] := rfl
-- ntmps 18 12
theorem take18 : (H 18).take = [] := rfl
theorem wr18 : (H 18).wr = [] := rfl
theorem res18 : Try.f18.results.toList = [.tmp 2] := rfl
theorem carry18 : (H 18).carry = [] := rfl
theorem lm18 : (H 18).lm = [] := rfl
theorem cmask18 : (H 18).cmask = [true, false, true, true, false, false, false, false, false, false, false, false] := rfl
theorem mask18 : (H 18).mask = [true, false, true, true, false, false, false, true, false, false, false, true] := rfl
-- ntmps 19 78
theorem take19 : (H 19).take = [] := rfl
theorem wr19 : (H 19).wr = [] := rfl
theorem res19 : Try.f19.results.toList = [.tmp 4, .tmp 5] := rfl
theorem carry19 : (H 19).carry = [] := rfl
theorem lm19 : (H 19).lm = [(5, [true, false, false, false, false, false, true, false, false, false, false, false, false, false, false, false, false, false, false, false, false, false, true, true, true, false, false, false, false, false, false, false, false, false, false, false, false, false, false, false, false, false, false, false, false, false, false, false, false, false, false, false, false, false, false, false, false, false, false, false, false, false, false, false, false, false, false, false, false, false, false, false, false, false, false, false, false, false])] := rfl
theorem cmask19 : (H 19).cmask = [true, true, false, false, true, true, true, false, true, true, true, false, false, false, false, false, false, false, false, false, false, false, true, true, true, false, false, false, false, false, false, false, false, false, false, false, false, false, false, false, false, false, false, false, false, false, false, false, false, false, false, false, false, false, false, false, false, false, false, false, false, false, false, false, false, false, false, false, false, false, false, false, false, false, false, false, false, false] := rfl
theorem mask19 : (H 19).mask = [true, true, false, false, true, true, true, false, true, true, true, false, false, false, false, false, false, false, false, false, false, true, true, true, true, true, false, false, false, false, false, false, false, false, false, true, false, false, false, false, false, true, false, false, false, false, false, false, false, false, false, false, false, false, false, true, false, false, false, false, false, false, false, false, false, false, true, false, false, false, false, false, false, false, false, false, false, false] := rfl
-- ntmps 20 22
theorem take20 : (H 20).take = [] := rfl
theorem wr20 : (H 20).wr = [] := rfl
theorem res20 : Try.f20.results.toList = [.tmp 4, .tmp 5] := rfl
theorem carry20 : (H 20).carry = [] := rfl
theorem lm20 : (H 20).lm = [] := rfl
theorem cmask20 : (H 20).cmask = [true, true, false, false, true, true, true, true, false, false, false, false, false, false, false, false, false, false, false, false, false, false] := rfl
theorem mask20 : (H 20).mask = [true, true, false, false, true, true, true, true, false, false, false, false, false, false, false, true, false, false, false, false, false, false] := rfl
-- ntmps 21 46
theorem take21 : (H 21).take = [39, 45] := rfl
theorem wr21 : (H 21).wr = [] := rfl
theorem res21 : Try.f21.results.toList = [.tmp 4, .tmp 5] := rfl
theorem carry21 : (H 21).carry = [] := rfl
theorem lm21 : (H 21).lm = [(11, [false, false, false, false, false, false, false, false, false, false, true, false, false, false, false, false, false, false, false, false, false, false, false, false, false, false, false, false, false, false, false, false, false, true, true, true, false, false, false, false, false, false, false, false, false, false])] := rfl
theorem cmask21 : (H 21).cmask = [true, true, false, false, true, true, true, true, true, true, true, false, true, false, false, false, false, false, false, false, false, false, false, false, false, false, false, false, false, false, false, false, false, true, true, true, false, false, false, false, false, false, false, false, false, false] := rfl
theorem mask21 : (H 21).mask = [true, true, false, false, true, true, true, true, true, true, true, false, true, false, false, false, false, false, false, false, true, false, false, false, false, false, false, false, true, false, false, false, true, true, true, true, true, false, false, false, false, false, false, false, false, false] := rfl
-- ntmps 22 39
theorem take22 : (H 22).take = [] := rfl
theorem wr22 : (H 22).wr = [] := rfl
theorem res22 : Try.f22.results.toList = [.cell 2 28, .tmp 3] := rfl
theorem carry22 : (H 22).carry = [] := rfl
theorem lm22 : (H 22).lm = [] := rfl
theorem cmask22 : (H 22).cmask = [true, false, true, true, true, true, true, false, false, false, false, false, false, false, false, false, false, false, false, false, false, false, false, false, false, false, false, false, false, false, false, false, false, false, false, false, false, false, false] := rfl
theorem mask22 : (H 22).mask = [true, false, true, true, true, true, true, false, false, false, false, false, false, true, false, false, false, false, false, false, false, false, false, true, false, false, false, false, false, false, false, false, false, true, false, false, false, false, false] := rfl
-- ntmps 23 9
theorem take23 : (H 23).take = [] := rfl
theorem wr23 : (H 23).wr = [] := rfl
theorem res23 : Try.f23.results.toList = [.tmp 2] := rfl
theorem carry23 : (H 23).carry = [] := rfl
theorem lm23 : (H 23).lm = [] := rfl
theorem cmask23 : (H 23).cmask = [true, false, true, false, false, false, false, false, false] := rfl
theorem mask23 : (H 23).mask = [true, false, true, false, false, false, false, false, true] := rfl
-- ntmps 24 15
theorem take24 : (H 24).take = [] := rfl
theorem wr24 : (H 24).wr = [] := rfl
theorem res24 : Try.f24.results.toList = [.tmp 2] := rfl
theorem carry24 : (H 24).carry = [] := rfl
theorem lm24 : (H 24).lm = [] := rfl
theorem cmask24 : (H 24).cmask = [true, false, true, true, true, false, false, false, false, false, false, false, false, false, false] := rfl
theorem mask24 : (H 24).mask = [true, false, true, true, true, false, false, false, false, false, false, true, false, false, false] := rfl
-- ntmps 25 19
theorem take25 : (H 25).take = [] := rfl
theorem wr25 : (H 25).wr = [] := rfl
theorem res25 : Try.f25.results.toList = [.tmp 6] := rfl
theorem carry25 : (H 25).carry = [] := rfl
theorem lm25 : (H 25).lm = [] := rfl
theorem cmask25 : (H 25).cmask = [true, true, true, false, false, false, true, false, false, false, false, false, false, false, false, false, false, false, false] := rfl
theorem mask25 : (H 25).mask = [true, true, true, false, false, false, true, false, false, false, false, false, false, false, false, false, false, false, false] := rfl
-- ntmps 26 83
theorem take26 : (H 26).take = [54, 62, 70, 40] := rfl
theorem wr26 : (H 26).wr = [] := rfl
theorem res26 : Try.f26.results.toList = [.tmp 4, .tmp 5] := rfl
theorem carry26 : (H 26).carry = [] := rfl
theorem lm26 : (H 26).lm = [(5, [true, true, false, false, false, false, true, false, false, false, false, false, false, false, false, false, false, false, false, false, false, true, true, true, false, false, false, false, false, false, false, false, false, false, false, false, false, false, false, false, false, false, false, false, false, false, false, false, false, false, false, false, false, false, false, false, false, false, false, false, false, false, false, false, false, false, false, false, false, false, false, false, false, false, false, false, false, false, false, false, false, false, false])] := rfl
theorem cmask26 : (H 26).cmask = [true, true, false, false, true, true, true, false, true, true, false, false, false, false, false, false, false, false, false, false, false, true, true, true, false, false, false, false, false, false, false, false, false, false, false, false, false, false, false, false, false, false, false, false, false, false, false, false, false, false, false, false, false, false, false, false, false, false, false, false, false, false, false, false, false, false, false, false, false, false, false, false, false, false, false, false, false, false, false, false, false, false, false] := rfl
theorem mask26 : (H 26).mask = [true, true, false, false, true, true, true, false, true, true, false, false, false, false, false, false, false, false, false, false, true, true, true, true, true, false, false, false, false, false, false, true, false, false, false, false, false, false, false, false, false, false, false, false, false, false, false, false, false, false, false, true, false, false, false, false, false, false, false, true, false, false, false, false, false, false, false, true, false, false, false, false, false, false, false, false, false, false, false, false, false, false, false] := rfl
-- ntmps 27 15
theorem take27 : (H 27).take = [] := rfl
theorem wr27 : (H 27).wr = [] := rfl
theorem res27 : Try.f27.results.toList = [.tmp 2] := rfl
theorem carry27 : (H 27).carry = [] := rfl
theorem lm27 : (H 27).lm = [] := rfl
theorem cmask27 : (H 27).cmask = [true, false, true, true, true, false, false, false, false, false, false, false, false, false, false] := rfl
theorem mask27 : (H 27).mask = [true, false, true, true, true, false, false, false, false, false, false, true, false, false, false] := rfl
-- ntmps 28 23
theorem take28 : (H 28).take = [] := rfl
theorem wr28 : (H 28).wr = [] := rfl
theorem res28 : Try.f28.results.toList = [.cell 4 60, .tmp 5] := rfl
theorem carry28 : (H 28).carry = [] := rfl
theorem lm28 : (H 28).lm = [] := rfl
theorem cmask28 : (H 28).cmask = [true, true, false, false, true, true, true, true, false, false, false, false, false, false, false, false, false, false, false, false, false, false, false] := rfl
theorem mask28 : (H 28).mask = [true, true, false, false, true, true, true, true, false, false, false, false, false, false, true, false, false, false, false, false, true, false, false] := rfl
-- ntmps 29 17
theorem take29 : (H 29).take = [14] := rfl
theorem wr29 : (H 29).wr = [] := rfl
theorem res29 : Try.f29.results.toList = [.tmp 2, .tmp 3] := rfl
theorem carry29 : (H 29).carry = [] := rfl
theorem lm29 : (H 29).lm = [] := rfl
theorem cmask29 : (H 29).cmask = [true, false, true, true, true, true, false, false, false, false, false, false, false, false, false, false, false] := rfl
theorem mask29 : (H 29).mask = [true, false, true, true, true, true, false, false, false, false, false, false, true, false, false, false, false] := rfl
-- ntmps 30 40
theorem take30 : (H 30).take = [] := rfl
theorem wr30 : (H 30).wr = [] := rfl
theorem res30 : Try.f30.results.toList = [.cell 4 60, .tmp 5] := rfl
theorem carry30 : (H 30).carry = [] := rfl
theorem lm30 : (H 30).lm = [] := rfl
theorem cmask30 : (H 30).cmask = [true, true, false, false, true, true, true, false, false, false, false, false, false, false, false, false, false, false, false, false, false, false, false, false, false, false, false, false, false, false, false, false, false, false, false, false, false, false, false, false] := rfl
theorem mask30 : (H 30).mask = [true, true, false, false, true, true, true, false, false, false, false, false, false, false, false, false, false, false, false, false, false, false, false, true, false, false, false, false, false, false, false, false, false, false, false, false, false, false, false, false] := rfl
-- ntmps 31 25
theorem take31 : (H 31).take = [19, 24] := rfl
theorem wr31 : (H 31).wr = [] := rfl
theorem res31 : Try.f31.results.toList = [.tmp 2, .tmp 3] := rfl
theorem carry31 : (H 31).carry = [] := rfl
theorem lm31 : (H 31).lm = [(2, [true, false, false, false, true, false, false, false, false, false, false, false, false, false, false, false, false, false, false, false, false, false, false, false, false])] := rfl
theorem cmask31 : (H 31).cmask = [true, false, true, true, true, true, true, true, false, false, false, false, false, false, false, false, false, false, false, false, false, false, false, false, false] := rfl
theorem mask31 : (H 31).mask = [true, false, true, true, true, true, true, true, false, true, false, false, false, false, false, false, false, true, false, false, false, false, false, false, false] := rfl
-- ntmps 32 27
theorem take32 : (H 32).take = [] := rfl
theorem wr32 : (H 32).wr = [] := rfl
theorem res32 : Try.f32.results.toList = [.tmp 4, .tmp 5] := rfl
theorem carry32 : (H 32).carry = [] := rfl
theorem lm32 : (H 32).lm = [] := rfl
theorem cmask32 : (H 32).cmask = [true, true, false, false, true, true, true, true, true, true, false, false, false, false, false, false, false, false, false, false, false, false, false, false, false, false, false] := rfl
theorem mask32 : (H 32).mask = [true, true, false, false, true, true, true, true, true, true, false, false, false, false, false, false, false, true, false, false, false, false, false, false, false, false, false] := rfl
-- ntmps 33 21
theorem take33 : (H 33).take = [] := rfl
theorem wr33 : (H 33).wr = [] := rfl
theorem res33 : Try.f33.results.toList = [.cell 2 60, .tmp 3] := rfl
theorem carry33 : (H 33).carry = [] := rfl
theorem lm33 : (H 33).lm = [] := rfl
theorem cmask33 : (H 33).cmask = [true, false, true, true, true, true, true, false, false, false, false, false, false, false, false, false, false, false, false, false, false] := rfl
theorem mask33 : (H 33).mask = [true, false, true, true, true, true, true, false, false, false, false, false, false, false, true, false, false, false, true, false, false] := rfl
-- ntmps 34 37
theorem take34 : (H 34).take = [] := rfl
theorem wr34 : (H 34).wr = [] := rfl
theorem res34 : Try.f34.results.toList = [.tmp 4] := rfl
theorem carry34 : (H 34).carry = [] := rfl
theorem lm34 : (H 34).lm = [(4, [false, true, false, false, false, true, false, false, false, false, false, false, false, false, false, false, false, false, false, false, false, false, false, false, false, false, false, false, false, false, false, false, false, false, false, false, false])] := rfl
theorem cmask34 : (H 34).cmask = [true, true, true, false, true, true, true, true, true, true, false, false, false, false, false, false, false, false, false, false, false, false, false, false, false, false, false, false, false, false, false, false, false, false, false, false, false] := rfl
theorem mask34 : (H 34).mask = [true, true, true, false, true, true, true, true, true, true, false, false, false, true, false, false, false, true, false, false, false, false, false, false, false, true, false, false, true, false, false, false, false, false, true, false, false] := rfl
-- ntmps 35 75
theorem take35 : (H 35).take = [] := rfl
theorem wr35 : (H 35).wr = [] := rfl
theorem res35 : Try.f35.results.toList = [.tmp 4] := rfl
theorem carry35 : (H 35).carry = [] := rfl
theorem lm35 : (H 35).lm = [(12, [true, true, false, false, false, true, false, false, false, false, false, false, false, false, false, false, false, false, false, false, false, false, false, false, false, false, false, false, false, false, false, false, false, false, false, false, false, false, false, true, true, true, false, false, false, false, false, false, false, false, false, false, false, false, false, false, false, false, false, false, false, false, false, false, false, false, false, false, false, false, false, false, false, false, false]), (22, [false, true, false, false, false, false, false, false, true, false, false, false, false, false, false, false, false, false, false, false, false, false, false, false, false, false, false, false, false, false, false, false, false, false, false, false, false, false, false, false, false, false, false, false, false, false, false, false, false, false, false, false, false, false, false, false, false, false, false, false, false, false, false, true, true, true, false, false, false, false, false, false, false, false, false])] := rfl
theorem cmask35 : (H 35).cmask = [true, true, false, false, true, true, false, true, true, false, true, false, true, false, false, false, false, false, false, false, false, false, false, false, false, false, false, false, false, false, false, false, false, false, false, false, false, false, false, true, true, true, false, false, false, false, false, false, false, false, false, false, false, false, false, false, false, false, false, false, false, false, false, true, true, true, false, false, false, false, false, false, false, false, false] := rfl
theorem mask35 : (H 35).mask = [true, true, false, false, true, true, false, true, true, false, true, false, true, true, false, true, false, false, false, false, false, false, true, false, false, false, false, false, false, true, false, false, false, false, false, false, false, false, false, true, true, true, true, false, false, false, false, false, false, true, false, false, false, false, false, false, false, false, false, false, false, false, false, true, true, true, true, false, false, false, false, false, false, false, false] := rfl
-- ntmps 36 22
theorem take36 : (H 36).take = [] := rfl
theorem wr36 : (H 36).wr = [] := rfl
theorem res36 : Try.f36.results.toList = [.cell 2 60, .tmp 3] := rfl
theorem carry36 : (H 36).carry = [] := rfl
theorem lm36 : (H 36).lm = [] := rfl
theorem cmask36 : (H 36).cmask = [true, false, true, true, true, true, true, false, false, false, false, false, false, false, false, false, false, false, false, false, false, false] := rfl
theorem mask36 : (H 36).mask = [true, false, true, true, true, true, true, false, false, false, false, false, false, false, true, false, false, false, false, true, false, false] := rfl
-- ntmps 37 40
theorem take37 : (H 37).take = [] := rfl
theorem wr37 : (H 37).wr = [] := rfl
theorem res37 : Try.f37.results.toList = [.tmp 4] := rfl
theorem carry37 : (H 37).carry = [] := rfl
theorem lm37 : (H 37).lm = [(4, [false, true, false, false, false, true, false, false, false, false, false, false, false, false, false, false, false, false, false, false, false, false, false, false, false, false, false, false, false, false, false, false, false, false, false, false, false, false, false, false])] := rfl
theorem cmask37 : (H 37).cmask = [true, true, true, false, true, true, true, true, true, true, false, false, false, false, false, false, false, false, false, false, false, false, false, false, false, false, false, false, false, false, false, false, false, false, false, false, false, false, false, false] := rfl
theorem mask37 : (H 37).mask = [true, true, true, false, true, true, true, true, true, true, false, false, false, false, true, false, false, false, false, true, false, false, false, false, false, false, false, true, false, false, false, true, false, false, false, false, false, true, false, false] := rfl
-- ntmps 38 99
theorem take38 : (H 38).take = [] := rfl
theorem wr38 : (H 38).wr = [] := rfl
theorem res38 : Try.f38.results.toList = [.cell 2 60, .tmp 3, .tmp 4] := rfl
theorem carry38 : (H 38).carry = [] := rfl
theorem lm38 : (H 38).lm = [(18, [true, false, true, false, false, true, true, true, true, true, false, false, false, false, false, false, false, false, false, false, false, false, false, false, false, false, false, false, false, false, false, false, false, false, false, false, false, false, false, false, false, false, false, false, false, false, false, false, false, false, true, true, true, false, false, false, false, false, false, false, false, false, false, false, false, false, false, false, false, false, false, false, false, false, false, false, false, false, false, false, false, false, false, false, false, false, false, false, false, false, false, false, false, false, false, false, false, false, false])] := rfl
theorem cmask38 : (H 38).cmask = [true, false, true, true, true, true, true, true, true, true, false, true, false, false, false, false, false, false, false, false, false, false, false, false, false, false, false, false, false, false, false, false, false, false, false, false, false, false, false, false, false, false, false, false, false, false, false, false, false, false, true, true, true, false, false, false, false, false, false, false, false, false, false, false, false, false, false, false, false, false, false, false, false, false, false, false, false, false, false, false, false, false, false, false, false, false, false, false, false, false, false, false, false, false, false, false, false, false, false] := rfl
theorem mask38 : (H 38).mask = [true, false, true, true, true, true, true, true, true, true, false, true, false, true, false, false, false, false, false, false, true, false, false, false, true, false, false, false, false, false, false, false, false, false, true, false, false, true, false, false, false, false, false, false, true, false, false, false, false, false, true, true, true, true, false, false, false, false, false, false, false, false, false, false, false, false, false, false, false, false, false, false, true, false, false, false, false, false, false, true, false, false, false, false, false, false, false, false, false, false, false, false, false, false, false, false, false, false, false] := rfl
-- ntmps 39 25
theorem take39 : (H 39).take = [] := rfl
theorem wr39 : (H 39).wr = [] := rfl
theorem res39 : Try.f39.results.toList = [] := rfl
theorem carry39 : (H 39).carry = [] := rfl
theorem lm39 : (H 39).lm = [] := rfl
theorem cmask39 : (H 39).cmask = [true, true, false, false, false, false, false, false, false, false, false, false, false, false, false, false, false, false, false, false, false, false, false, false, false] := rfl
theorem mask39 : (H 39).mask = [true, true, false, false, false, false, false, true, false, false, false, false, false, false, false, false, false, false, false, false, false, true, false, false, false] := rfl
-- ntmps 40 19
theorem take40 : (H 40).take = [12] := rfl
theorem wr40 : (H 40).wr = [] := rfl
theorem res40 : Try.f40.results.toList = [.tmp 4, .tmp 5] := rfl
theorem carry40 : (H 40).carry = [] := rfl
theorem lm40 : (H 40).lm = [] := rfl
theorem cmask40 : (H 40).cmask = [true, true, false, false, true, true, false, false, false, false, false, false, false, false, false, false, false, false, false] := rfl
theorem mask40 : (H 40).mask = [true, true, false, false, true, true, false, false, false, false, false, false, false, false, false, false, false, false, false] := rfl
-- ntmps 41 14
theorem take41 : (H 41).take = [] := rfl
theorem wr41 : (H 41).wr = [] := rfl
theorem res41 : Try.f41.results.toList = [.tmp 2] := rfl
theorem carry41 : (H 41).carry = [] := rfl
theorem lm41 : (H 41).lm = [] := rfl
theorem cmask41 : (H 41).cmask = [true, false, true, false, false, false, false, false, false, false, false, false, false, false] := rfl
theorem mask41 : (H 41).mask = [true, false, true, false, false, false, false, false, false, false, false, false, false, false] := rfl
-- ntmps 42 99
theorem take42 : (H 42).take = [] := rfl
theorem wr42 : (H 42).wr = [] := rfl
theorem res42 : Try.f42.results.toList = [.cell 2 60, .tmp 3, .tmp 4] := rfl
theorem carry42 : (H 42).carry = [] := rfl
theorem lm42 : (H 42).lm = [(17, [true, false, true, false, false, true, true, false, true, true, false, false, false, false, false, false, false, false, false, false, false, false, false, false, false, false, false, false, false, false, false, false, false, false, false, false, false, false, false, false, false, false, false, false, false, false, false, false, false, false, false, false, false, false, false, false, false, false, false, false, false, false, false, false, false, false, false, false, false, false, false, false, false, false, false, false, false, false, false, false, false, false, false, false, false, false, false, false, false, false, false, false, false, false, false, false, false, false, false])] := rfl
theorem cmask42 : (H 42).cmask = [true, false, true, true, true, true, true, true, true, true, true, false, false, false, false, false, false, false, false, false, false, false, false, false, false, false, false, false, false, false, false, false, false, false, false, false, false, false, false, false, false, false, false, false, false, false, false, false, false, false, false, false, false, false, false, false, false, false, false, false, false, false, false, false, false, false, false, false, false, false, false, false, false, false, false, false, false, false, false, false, false, false, false, false, false, false, false, false, false, false, false, false, false, false, false, false, false, false, false] := rfl
theorem mask42 : (H 42).mask = [true, false, true, true, true, true, true, true, true, true, true, false, false, false, true, false, false, false, false, true, false, false, false, true, false, false, false, false, false, false, false, false, false, true, false, false, true, false, false, false, false, false, false, true, false, false, false, true, false, false, false, false, false, false, false, false, false, false, false, false, false, false, false, false, false, false, false, false, false, false, true, false, false, false, false, false, false, true, false, false, false, false, false, false, false, false, false, false, false, false, false, false, false, false, false, false, false, false, false] := rfl
-- ntmps 43 10
theorem take43 : (H 43).take = [] := rfl
theorem wr43 : (H 43).wr = [] := rfl
theorem res43 : Try.f43.results.toList = [.tmp 2] := rfl
theorem carry43 : (H 43).carry = [] := rfl
theorem lm43 : (H 43).lm = [] := rfl
theorem cmask43 : (H 43).cmask = [true, false, true, false, false, false, false, false, false, false] := rfl
theorem mask43 : (H 43).mask = [true, false, true, false, true, false, false, false, false, false] := rfl
-- ntmps 44 20
theorem take44 : (H 44).take = [] := rfl
theorem wr44 : (H 44).wr = [] := rfl
theorem res44 : Try.f44.results.toList = [] := rfl
theorem carry44 : (H 44).carry = [] := rfl
theorem lm44 : (H 44).lm = [] := rfl
theorem cmask44 : (H 44).cmask = [true, false, false, false, false, false, false, false, false, false, false, false, false, false, false, false, false, false, false, false] := rfl
theorem mask44 : (H 44).mask = [true, false, false, false, false, false, true, false, false, false, false, false, false, false, false, false, false, false, false, true] := rfl
-- ntmps 45 30
theorem take45 : (H 45).take = [] := rfl
theorem wr45 : (H 45).wr = [] := rfl
theorem res45 : Try.f45.results.toList = [] := rfl
theorem carry45 : (H 45).carry = [] := rfl
theorem lm45 : (H 45).lm = [] := rfl
theorem cmask45 : (H 45).cmask = [true, true, false, false, true, false, false, false, false, false, false, false, false, false, false, false, false, false, false, false, false, false, false, false, false, false, false, false, false, false] := rfl
theorem mask45 : (H 45).mask = [true, true, false, false, true, false, false, false, false, false, false, false, false, false, false, false, false, false, false, false, false, false, false, false, false, false, false, false, false, false] := rfl
noncomputable def i2 : TypeInfo := (Try.prog.info? 2).getD default
theorem info2 : Try.prog.info? 2 = some i2 := rfl
theorem size2 : i2.size = 1 := rfl
theorem bytes2 : i2.bytes = 8 := rfl
theorem agg2 : isAggB Try.prog 2 = some false := rfl
theorem zero2 : zeroCellsOf Try.prog 2 = some [.int .i64 0] := rfl
noncomputable def i3 : TypeInfo := (Try.prog.info? 3).getD default
theorem info3 : Try.prog.info? 3 = some i3 := rfl
theorem size3 : i3.size = 1 := rfl
theorem bytes3 : i3.bytes = 8 := rfl
theorem agg3 : isAggB Try.prog 3 = some false := rfl
theorem zero3 : zeroCellsOf Try.prog 3 = some [.int .i64 0] := rfl
noncomputable def i4 : TypeInfo := (Try.prog.info? 4).getD default
theorem info4 : Try.prog.info? 4 = some i4 := rfl
theorem size4 : i4.size = 1 := rfl
theorem bytes4 : i4.bytes = 1 := rfl
theorem agg4 : isAggB Try.prog 4 = some false := rfl
theorem zero4 : zeroCellsOf Try.prog 4 = some [.bool false] := rfl
noncomputable def i5 : TypeInfo := (Try.prog.info? 5).getD default
theorem info5 : Try.prog.info? 5 = some i5 := rfl
theorem size5 : i5.size = 1 := rfl
theorem bytes5 : i5.bytes = 1 := rfl
theorem agg5 : isAggB Try.prog 5 = some false := rfl
theorem zero5 : zeroCellsOf Try.prog 5 = some [.int .u8 0] := rfl
noncomputable def i6 : TypeInfo := (Try.prog.info? 6).getD default
theorem info6 : Try.prog.info? 6 = some i6 := rfl
theorem size6 : i6.size = 1 := rfl
theorem bytes6 : i6.bytes = 1 := rfl
theorem agg6 : isAggB Try.prog 6 = some false := rfl
theorem zero6 : zeroCellsOf Try.prog 6 = some [.int .u8 0] := rfl
noncomputable def i7 : TypeInfo := (Try.prog.info? 7).getD default
theorem info7 : Try.prog.info? 7 = some i7 := rfl
theorem size7 : i7.size = 4 := rfl
theorem bytes7 : i7.bytes = 24 := rfl
theorem agg7 : isAggB Try.prog 7 = some true := rfl
theorem places7 : placesOf Try.prog 7 = some [(0, 1), (1, 1), (2, 1), (3, 1)] := rfl
theorem zero7 : zeroCellsOf Try.prog 7 = some [.int .i64 0, .int .i64 0, .bool false, .int .u8 0] := rfl
noncomputable def i8 : TypeInfo := (Try.prog.info? 8).getD default
theorem info8 : Try.prog.info? 8 = some i8 := rfl
theorem size8 : i8.size = 4 := rfl
theorem bytes8 : i8.bytes = 24 := rfl
theorem agg8 : isAggB Try.prog 8 = some true := rfl
theorem places8 : placesOf Try.prog 8 = some [(0, 1), (1, 1), (2, 1), (3, 1)] := rfl
theorem zero8 : zeroCellsOf Try.prog 8 = some [.int .i64 0, .int .i64 0, .bool false, .int .u8 0] := rfl
noncomputable def i9 : TypeInfo := (Try.prog.info? 9).getD default
theorem info9 : Try.prog.info? 9 = some i9 := rfl
theorem size9 : i9.size = 1 := rfl
theorem bytes9 : i9.bytes = 16 := rfl
theorem agg9 : isAggB Try.prog 9 = some false := rfl
theorem zero9 : zeroCellsOf Try.prog 9 = some [.str []] := rfl
noncomputable def i10 : TypeInfo := (Try.prog.info? 10).getD default
theorem info10 : Try.prog.info? 10 = some i10 := rfl
theorem size10 : i10.size = 1 := rfl
theorem bytes10 : i10.bytes = 16 := rfl
theorem agg10 : isAggB Try.prog 10 = some false := rfl
theorem zero10 : zeroCellsOf Try.prog 10 = some [.str []] := rfl
noncomputable def i11 : TypeInfo := (Try.prog.info? 11).getD default
theorem info11 : Try.prog.info? 11 = some i11 := rfl
theorem size11 : i11.size = 1 := rfl
theorem bytes11 : i11.bytes = 16 := rfl
theorem agg11 : isAggB Try.prog 11 = some false := rfl
theorem zero11 : zeroCellsOf Try.prog 11 = some [.str []] := rfl
noncomputable def i12 : TypeInfo := (Try.prog.info? 12).getD default
theorem info12 : Try.prog.info? 12 = some i12 := rfl
theorem size12 : i12.size = 1 := rfl
theorem bytes12 : i12.bytes = 8 := rfl
theorem agg12 : isAggB Try.prog 12 = some false := rfl
theorem zero12 : zeroCellsOf Try.prog 12 = some [.int .u64 0] := rfl
noncomputable def i13 : TypeInfo := (Try.prog.info? 13).getD default
theorem info13 : Try.prog.info? 13 = some i13 := rfl
theorem size13 : i13.size = 2 := rfl
theorem bytes13 : i13.bytes = 24 := rfl
theorem agg13 : isAggB Try.prog 13 = some true := rfl
theorem places13 : placesOf Try.prog 13 = some [(0, 1), (1, 1)] := rfl
theorem zero13 : zeroCellsOf Try.prog 13 = some [.str [], .int .u64 0] := rfl
noncomputable def i14 : TypeInfo := (Try.prog.info? 14).getD default
theorem info14 : Try.prog.info? 14 = some i14 := rfl
theorem size14 : i14.size = 2 := rfl
theorem bytes14 : i14.bytes = 24 := rfl
theorem agg14 : isAggB Try.prog 14 = some true := rfl
theorem places14 : placesOf Try.prog 14 = some [(0, 1), (1, 1)] := rfl
theorem zero14 : zeroCellsOf Try.prog 14 = some [.str [], .int .u64 0] := rfl
noncomputable def i15 : TypeInfo := (Try.prog.info? 15).getD default
theorem info15 : Try.prog.info? 15 = some i15 := rfl
theorem size15 : i15.size = 1 := rfl
theorem bytes15 : i15.bytes = 8 := rfl
theorem agg15 : isAggB Try.prog 15 = some false := rfl
theorem zero15 : zeroCellsOf Try.prog 15 = some [.nilp] := rfl
noncomputable def i16 : TypeInfo := (Try.prog.info? 16).getD default
theorem info16 : Try.prog.info? 16 = some i16 := rfl
theorem size16 : i16.size = 1 := rfl
theorem bytes16 : i16.bytes = 8 := rfl
theorem agg16 : isAggB Try.prog 16 = some false := rfl
theorem zero16 : zeroCellsOf Try.prog 16 = some [.nilp] := rfl
noncomputable def i17 : TypeInfo := (Try.prog.info? 17).getD default
theorem info17 : Try.prog.info? 17 = some i17 := rfl
theorem size17 : i17.size = 1 := rfl
theorem bytes17 : i17.bytes = 8 := rfl
theorem agg17 : isAggB Try.prog 17 = some false := rfl
theorem zero17 : zeroCellsOf Try.prog 17 = some [.nilp] := rfl
noncomputable def i18 : TypeInfo := (Try.prog.info? 18).getD default
theorem info18 : Try.prog.info? 18 = some i18 := rfl
theorem size18 : i18.size = 1 := rfl
theorem bytes18 : i18.bytes = 8 := rfl
theorem agg18 : isAggB Try.prog 18 = some true := rfl
theorem places18 : placesOf Try.prog 18 = some [(0, 1)] := rfl
theorem zero18 : zeroCellsOf Try.prog 18 = some [.nilp] := rfl
noncomputable def i19 : TypeInfo := (Try.prog.info? 19).getD default
theorem info19 : Try.prog.info? 19 = some i19 := rfl
theorem size19 : i19.size = 1 := rfl
theorem bytes19 : i19.bytes = 8 := rfl
theorem agg19 : isAggB Try.prog 19 = some true := rfl
theorem places19 : placesOf Try.prog 19 = some [(0, 1)] := rfl
theorem zero19 : zeroCellsOf Try.prog 19 = some [.nilp] := rfl
noncomputable def i21 : TypeInfo := (Try.prog.info? 21).getD default
theorem info21 : Try.prog.info? 21 = some i21 := rfl
theorem size21 : i21.size = 1 := rfl
theorem bytes21 : i21.bytes = 4 := rfl
theorem agg21 : isAggB Try.prog 21 = some false := rfl
theorem zero21 : zeroCellsOf Try.prog 21 = some [.int .i32 0] := rfl
noncomputable def i22 : TypeInfo := (Try.prog.info? 22).getD default
theorem info22 : Try.prog.info? 22 = some i22 := rfl
theorem size22 : i22.size = 1 := rfl
theorem bytes22 : i22.bytes = 24 := rfl
theorem agg22 : isAggB Try.prog 22 = some false := rfl
theorem zero22 : zeroCellsOf Try.prog 22 = some [.sl 0 true true []] := rfl
noncomputable def i23 : TypeInfo := (Try.prog.info? 23).getD default
theorem info23 : Try.prog.info? 23 = some i23 := rfl
theorem size23 : i23.size = 1 := rfl
theorem bytes23 : i23.bytes = 24 := rfl
theorem agg23 : isAggB Try.prog 23 = some false := rfl
theorem zero23 : zeroCellsOf Try.prog 23 = some [.sl 0 true true []] := rfl
noncomputable def i24 : TypeInfo := (Try.prog.info? 24).getD default
theorem info24 : Try.prog.info? 24 = some i24 := rfl
theorem size24 : i24.size = 1 := rfl
theorem bytes24 : i24.bytes = 24 := rfl
theorem agg24 : isAggB Try.prog 24 = some false := rfl
theorem zero24 : zeroCellsOf Try.prog 24 = some [.sl 0 true true []] := rfl
noncomputable def i25 : TypeInfo := (Try.prog.info? 25).getD default
theorem info25 : Try.prog.info? 25 = some i25 := rfl
theorem size25 : i25.size = 3 := rfl
theorem bytes25 : i25.bytes = 72 := rfl
theorem agg25 : isAggB Try.prog 25 = some true := rfl
theorem places25 : placesOf Try.prog 25 = some [(0, 1), (1, 1), (2, 1)] := rfl
theorem zero25 : zeroCellsOf Try.prog 25 = some [.sl 0 true true [], .sl 0 true true [], .sl 0 true true []] := rfl
noncomputable def i26 : TypeInfo := (Try.prog.info? 26).getD default
theorem info26 : Try.prog.info? 26 = some i26 := rfl
theorem size26 : i26.size = 3 := rfl
theorem bytes26 : i26.bytes = 72 := rfl
theorem agg26 : isAggB Try.prog 26 = some true := rfl
theorem places26 : placesOf Try.prog 26 = some [(0, 1), (1, 1), (2, 1)] := rfl
theorem zero26 : zeroCellsOf Try.prog 26 = some [.sl 0 true true [], .sl 0 true true [], .sl 0 true true []] := rfl
noncomputable def i27 : TypeInfo := (Try.prog.info? 27).getD default
theorem info27 : Try.prog.info? 27 = some i27 := rfl
theorem size27 : i27.size = 2 := rfl
theorem bytes27 : i27.bytes = 32 := rfl
theorem agg27 : isAggB Try.prog 27 = some true := rfl
theorem places27 : placesOf Try.prog 27 = some [(0, 1), (1, 1)] := rfl
theorem zero27 : zeroCellsOf Try.prog 27 = some [.str [], .str []] := rfl
noncomputable def i28 : TypeInfo := (Try.prog.info? 28).getD default
theorem info28 : Try.prog.info? 28 = some i28 := rfl
theorem size28 : i28.size = 2 := rfl
theorem bytes28 : i28.bytes = 32 := rfl
theorem agg28 : isAggB Try.prog 28 = some true := rfl
theorem places28 : placesOf Try.prog 28 = some [(0, 1), (1, 1)] := rfl
theorem zero28 : zeroCellsOf Try.prog 28 = some [.str [], .str []] := rfl
noncomputable def i29 : TypeInfo := (Try.prog.info? 29).getD default
theorem info29 : Try.prog.info? 29 = some i29 := rfl
theorem size29 : i29.size = 1 := rfl
theorem bytes29 : i29.bytes = 8 := rfl
theorem agg29 : isAggB Try.prog 29 = some false := rfl
theorem zero29 : zeroCellsOf Try.prog 29 = some [.int .i64 0] := rfl
noncomputable def i35 : TypeInfo := (Try.prog.info? 35).getD default
theorem info35 : Try.prog.info? 35 = some i35 := rfl
theorem size35 : i35.size = 1 := rfl
theorem bytes35 : i35.bytes = 8 := rfl
theorem agg35 : isAggB Try.prog 35 = some false := rfl
theorem zero35 : zeroCellsOf Try.prog 35 = some [.nilp] := rfl
noncomputable def i36 : TypeInfo := (Try.prog.info? 36).getD default
theorem info36 : Try.prog.info? 36 = some i36 := rfl
theorem size36 : i36.size = 1 := rfl
theorem bytes36 : i36.bytes = 1 := rfl
theorem agg36 : isAggB Try.prog 36 = some true := rfl
theorem places36 : placesOf Try.prog 36 = some [(0, 1)] := rfl
theorem zero36 : zeroCellsOf Try.prog 36 = some [.bool false] := rfl
noncomputable def i37 : TypeInfo := (Try.prog.info? 37).getD default
theorem info37 : Try.prog.info? 37 = some i37 := rfl
theorem size37 : i37.size = 1 := rfl
theorem bytes37 : i37.bytes = 1 := rfl
theorem agg37 : isAggB Try.prog 37 = some true := rfl
theorem places37 : placesOf Try.prog 37 = some [(0, 1)] := rfl
theorem zero37 : zeroCellsOf Try.prog 37 = some [.bool false] := rfl
noncomputable def i40 : TypeInfo := (Try.prog.info? 40).getD default
theorem info40 : Try.prog.info? 40 = some i40 := rfl
theorem size40 : i40.size = 3 := rfl
theorem bytes40 : i40.bytes = 48 := rfl
theorem agg40 : isAggB Try.prog 40 = some true := rfl
theorem zero40 : zeroCellsOf Try.prog 40 = some [.str [], .str [], .str []] := rfl
noncomputable def i45 : TypeInfo := (Try.prog.info? 45).getD default
theorem info45 : Try.prog.info? 45 = some i45 := rfl
theorem size45 : i45.size = 1 := rfl
theorem bytes45 : i45.bytes = 24 := rfl
theorem agg45 : isAggB Try.prog 45 = some false := rfl
theorem zero45 : zeroCellsOf Try.prog 45 = some [.sl 0 true true []] := rfl
noncomputable def i49 : TypeInfo := (Try.prog.info? 49).getD default
theorem info49 : Try.prog.info? 49 = some i49 := rfl
theorem size49 : i49.size = 1 := rfl
theorem bytes49 : i49.bytes = 8 := rfl
theorem agg49 : isAggB Try.prog 49 = some false := rfl
theorem zero49 : zeroCellsOf Try.prog 49 = some [.nilp] := rfl
noncomputable def i58 : TypeInfo := (Try.prog.info? 58).getD default
theorem info58 : Try.prog.info? 58 = some i58 := rfl
theorem size58 : i58.size = 1 := rfl
theorem bytes58 : i58.bytes = 8 := rfl
theorem agg58 : isAggB Try.prog 58 = some false := rfl
theorem zero58 : zeroCellsOf Try.prog 58 = some [.int .u64 0] := rfl
noncomputable def i59 : TypeInfo := (Try.prog.info? 59).getD default
theorem info59 : Try.prog.info? 59 = some i59 := rfl
theorem size59 : i59.size = 3 := rfl
theorem bytes59 : i59.bytes = 40 := rfl
theorem agg59 : isAggB Try.prog 59 = some true := rfl
theorem places59 : placesOf Try.prog 59 = some [(0, 1), (1, 1), (2, 1)] := rfl
theorem zero59 : zeroCellsOf Try.prog 59 = some [.int .i64 0, .str [], .str []] := rfl
noncomputable def i60 : TypeInfo := (Try.prog.info? 60).getD default
theorem info60 : Try.prog.info? 60 = some i60 := rfl
theorem size60 : i60.size = 3 := rfl
theorem bytes60 : i60.bytes = 40 := rfl
theorem agg60 : isAggB Try.prog 60 = some true := rfl
theorem places60 : placesOf Try.prog 60 = some [(0, 1), (1, 1), (2, 1)] := rfl
theorem zero60 : zeroCellsOf Try.prog 60 = some [.int .i64 0, .str [], .str []] := rfl
noncomputable def i66 : TypeInfo := (Try.prog.info? 66).getD default
theorem info66 : Try.prog.info? 66 = some i66 := rfl
theorem size66 : i66.size = 1 := rfl
theorem bytes66 : i66.bytes = 24 := rfl
theorem agg66 : isAggB Try.prog 66 = some false := rfl
theorem zero66 : zeroCellsOf Try.prog 66 = some [.sl 0 true true []] := rfl
noncomputable def i70 : TypeInfo := (Try.prog.info? 70).getD default
theorem info70 : Try.prog.info? 70 = some i70 := rfl
theorem size70 : i70.size = 1 := rfl
theorem bytes70 : i70.bytes = 24 := rfl
theorem agg70 : isAggB Try.prog 70 = some true := rfl
theorem places70 : placesOf Try.prog 70 = some [(0, 1)] := rfl
theorem zero70 : zeroCellsOf Try.prog 70 = some [.sl 0 true true []] := rfl
noncomputable def i71 : TypeInfo := (Try.prog.info? 71).getD default
theorem info71 : Try.prog.info? 71 = some i71 := rfl
theorem size71 : i71.size = 1 := rfl
theorem bytes71 : i71.bytes = 24 := rfl
theorem agg71 : isAggB Try.prog 71 = some true := rfl
theorem places71 : placesOf Try.prog 71 = some [(0, 1)] := rfl
theorem zero71 : zeroCellsOf Try.prog 71 = some [.sl 0 true true []] := rfl
noncomputable def i77 : TypeInfo := (Try.prog.info? 77).getD default
theorem info77 : Try.prog.info? 77 = some i77 := rfl
theorem size77 : i77.size = 1 := rfl
theorem bytes77 : i77.bytes = 8 := rfl
theorem agg77 : isAggB Try.prog 77 = some false := rfl
theorem zero77 : zeroCellsOf Try.prog 77 = some [.nilp] := rfl
noncomputable def i78 : TypeInfo := (Try.prog.info? 78).getD default
theorem info78 : Try.prog.info? 78 = some i78 := rfl
theorem size78 : i78.size = 2 := rfl
theorem bytes78 : i78.bytes = 32 := rfl
theorem agg78 : isAggB Try.prog 78 = some true := rfl
theorem places78 : placesOf Try.prog 78 = some [(0, 1), (1, 1)] := rfl
theorem zero78 : zeroCellsOf Try.prog 78 = some [.nilp, .sl 0 true true []] := rfl
noncomputable def i79 : TypeInfo := (Try.prog.info? 79).getD default
theorem info79 : Try.prog.info? 79 = some i79 := rfl
theorem size79 : i79.size = 2 := rfl
theorem bytes79 : i79.bytes = 32 := rfl
theorem agg79 : isAggB Try.prog 79 = some true := rfl
theorem places79 : placesOf Try.prog 79 = some [(0, 1), (1, 1)] := rfl
theorem zero79 : zeroCellsOf Try.prog 79 = some [.nilp, .sl 0 true true []] := rfl
noncomputable def i87 : TypeInfo := (Try.prog.info? 87).getD default
theorem info87 : Try.prog.info? 87 = some i87 := rfl
theorem size87 : i87.size = 1 := rfl
theorem bytes87 : i87.bytes = 8 := rfl
theorem agg87 : isAggB Try.prog 87 = some false := rfl
theorem zero87 : zeroCellsOf Try.prog 87 = some [.nilp] := rfl
noncomputable def i88 : TypeInfo := (Try.prog.info? 88).getD default
theorem info88 : Try.prog.info? 88 = some i88 := rfl
theorem size88 : i88.size = 1 := rfl
theorem bytes88 : i88.bytes = 24 := rfl
theorem agg88 : isAggB Try.prog 88 = some false := rfl
theorem zero88 : zeroCellsOf Try.prog 88 = some [.sl 0 true true []] := rfl
noncomputable def i92 : TypeInfo := (Try.prog.info? 92).getD default
theorem info92 : Try.prog.info? 92 = some i92 := rfl
theorem size92 : i92.size = 4 := rfl
theorem bytes92 : i92.bytes = 40 := rfl
theorem agg92 : isAggB Try.prog 92 = some true := rfl
theorem places92 : placesOf Try.prog 92 = some [(0, 1), (1, 1), (2, 1), (3, 1)] := rfl
theorem zero92 : zeroCellsOf Try.prog 92 = some [.nilp, .nilp, .nilp, .str []] := rfl
noncomputable def i93 : TypeInfo := (Try.prog.info? 93).getD default
theorem info93 : Try.prog.info? 93 = some i93 := rfl
theorem size93 : i93.size = 4 := rfl
theorem bytes93 : i93.bytes = 40 := rfl
theorem agg93 : isAggB Try.prog 93 = some true := rfl
theorem places93 : placesOf Try.prog 93 = some [(0, 1), (1, 1), (2, 1), (3, 1)] := rfl
theorem zero93 : zeroCellsOf Try.prog 93 = some [.nilp, .nilp, .nilp, .str []] := rfl
noncomputable def i94 : TypeInfo := (Try.prog.info? 94).getD default
theorem info94 : Try.prog.info? 94 = some i94 := rfl
theorem size94 : i94.size = 0 := rfl
theorem bytes94 : i94.bytes = 0 := rfl
theorem agg94 : isAggB Try.prog 94 = some true := rfl
theorem zero94 : zeroCellsOf Try.prog 94 = some [] := rfl
noncomputable def i95 : TypeInfo := (Try.prog.info? 95).getD default
theorem info95 : Try.prog.info? 95 = some i95 := rfl
theorem size95 : i95.size = 0 := rfl
theorem bytes95 : i95.bytes = 0 := rfl
theorem agg95 : isAggB Try.prog 95 = some true := rfl
theorem places95 : placesOf Try.prog 95 = some [(0, 0)] := rfl
theorem zero95 : zeroCellsOf Try.prog 95 = some [] := rfl
noncomputable def i96 : TypeInfo := (Try.prog.info? 96).getD default
theorem info96 : Try.prog.info? 96 = some i96 := rfl
theorem size96 : i96.size = 0 := rfl
theorem bytes96 : i96.bytes = 0 := rfl
theorem agg96 : isAggB Try.prog 96 = some true := rfl
theorem places96 : placesOf Try.prog 96 = some [(0, 0)] := rfl
theorem zero96 : zeroCellsOf Try.prog 96 = some [] := rfl
noncomputable def i98 : TypeInfo := (Try.prog.info? 98).getD default
theorem info98 : Try.prog.info? 98 = some i98 := rfl
theorem size98 : i98.size = 1 := rfl
theorem bytes98 : i98.bytes = 4 := rfl
theorem agg98 : isAggB Try.prog 98 = some false := rfl
theorem zero98 : zeroCellsOf Try.prog 98 = some [.int .u32 0] := rfl
noncomputable def i99 : TypeInfo := (Try.prog.info? 99).getD default
theorem info99 : Try.prog.info? 99 = some i99 := rfl
theorem size99 : i99.size = 1 := rfl
theorem bytes99 : i99.bytes = 1 := rfl
theorem agg99 : isAggB Try.prog 99 = some false := rfl
theorem zero99 : zeroCellsOf Try.prog 99 = some [.int .u8 0] := rfl
noncomputable def i100 : TypeInfo := (Try.prog.info? 100).getD default
theorem info100 : Try.prog.info? 100 = some i100 := rfl
theorem size100 : i100.size = 1 := rfl
theorem bytes100 : i100.bytes = 1 := rfl
theorem agg100 : isAggB Try.prog 100 = some false := rfl
theorem zero100 : zeroCellsOf Try.prog 100 = some [.int .u8 0] := rfl
noncomputable def i102 : TypeInfo := (Try.prog.info? 102).getD default
theorem info102 : Try.prog.info? 102 = some i102 := rfl
theorem size102 : i102.size = 1 := rfl
theorem bytes102 : i102.bytes = 4 := rfl
theorem agg102 : isAggB Try.prog 102 = some false := rfl
theorem zero102 : zeroCellsOf Try.prog 102 = some [.int .i32 0] := rfl
noncomputable def i103 : TypeInfo := (Try.prog.info? 103).getD default
theorem info103 : Try.prog.info? 103 = some i103 := rfl
theorem size103 : i103.size = 1 := rfl
theorem bytes103 : i103.bytes = 4 := rfl
theorem agg103 : isAggB Try.prog 103 = some false := rfl
theorem zero103 : zeroCellsOf Try.prog 103 = some [.int .i32 0] := rfl
noncomputable def i104 : TypeInfo := (Try.prog.info? 104).getD default
theorem info104 : Try.prog.info? 104 = some i104 := rfl
theorem size104 : i104.size = 11 := rfl
theorem bytes104 : i104.bytes = 48 := rfl
theorem agg104 : isAggB Try.prog 104 = some true := rfl
theorem places104 : placesOf Try.prog 104 = some [(0, 1), (1, 1), (2, 1), (3, 1), (4, 1), (5, 1), (6, 1), (7, 1), (8, 1), (9, 1), (10, 1)] := rfl
theorem zero104 : zeroCellsOf Try.prog 104 = some [.int .u64 0, .int .u64 0, .int .u32 0, .int .u8 0, .int .u8 0, .int .u8 0, .int .u8 0, .con 0, .nilp, .int .i32 0, .int .i32 0] := rfl
noncomputable def i105 : TypeInfo := (Try.prog.info? 105).getD default
theorem info105 : Try.prog.info? 105 = some i105 := rfl
theorem size105 : i105.size = 11 := rfl
theorem bytes105 : i105.bytes = 48 := rfl
theorem agg105 : isAggB Try.prog 105 = some true := rfl
theorem places105 : placesOf Try.prog 105 = some [(0, 1), (1, 1), (2, 1), (3, 1), (4, 1), (5, 1), (6, 1), (7, 1), (8, 1), (9, 1), (10, 1)] := rfl
theorem zero105 : zeroCellsOf Try.prog 105 = some [.int .u64 0, .int .u64 0, .int .u32 0, .int .u8 0, .int .u8 0, .int .u8 0, .int .u8 0, .con 0, .nilp, .int .i32 0, .int .i32 0] := rfl

set_option linter.defProp false
def ty0 := And.intro @info2 (And.intro @size2 (And.intro @bytes2 (And.intro @agg2 (And.intro @zero2 (And.intro @info3 (And.intro @size3 (And.intro @bytes3 (And.intro @agg3 (And.intro @zero3 (And.intro @info4 (And.intro @size4 (And.intro @bytes4 (And.intro @agg4 (And.intro @zero4 (And.intro @info5 (And.intro @size5 (And.intro @bytes5 (And.intro @agg5 (And.intro @zero5 (And.intro @info6 (And.intro @size6 (And.intro @bytes6 (And.intro @agg6 (And.intro @zero6 (And.intro @info7 (And.intro @size7 (And.intro @bytes7 (And.intro @agg7 (And.intro @places7 (And.intro @zero7 (And.intro @info8 (And.intro @size8 (And.intro @bytes8 (And.intro @agg8 (And.intro @places8 (And.intro @zero8 (And.intro @info9 (And.intro @size9 @bytes9))))))))))))))))))))))))))))))))))))))
def ty1 := And.intro @agg9 (And.intro @zero9 (And.intro @info10 (And.intro @size10 (And.intro @bytes10 (And.intro @agg10 (And.intro @zero10 (And.intro @info11 (And.intro @size11 (And.intro @bytes11 (And.intro @agg11 (And.intro @zero11 (And.intro @info12 (And.intro @size12 (And.intro @bytes12 (And.intro @agg12 (And.intro @zero12 (And.intro @info13 (And.intro @size13 (And.intro @bytes13 (And.intro @agg13 (And.intro @places13 (And.intro @zero13 (And.intro @info14 (And.intro @size14 (And.intro @bytes14 (And.intro @agg14 (And.intro @places14 (And.intro @zero14 (And.intro @info15 (And.intro @size15 (And.intro @bytes15 (And.intro @agg15 (And.intro @zero15 (And.intro @info16 (And.intro @size16 (And.intro @bytes16 (And.intro @agg16 (And.intro @zero16 @info17))))))))))))))))))))))))))))))))))))))
def ty2 := And.intro @size17 (And.intro @bytes17 (And.intro @agg17 (And.intro @zero17 (And.intro @info18 (And.intro @size18 (And.intro @bytes18 (And.intro @agg18 (And.intro @places18 (And.intro @zero18 (And.intro @info19 (And.intro @size19 (And.intro @bytes19 (And.intro @agg19 (And.intro @places19 (And.intro @zero19 (And.intro @info21 (And.intro @size21 (And.intro @bytes21 (And.intro @agg21 (And.intro @zero21 (And.intro @info22 (And.intro @size22 (And.intro @bytes22 (And.intro @agg22 (And.intro @zero22 (And.intro @info23 (And.intro @size23 (And.intro @bytes23 (And.intro @agg23 (And.intro @zero23 (And.intro @info24 (And.intro @size24 (And.intro @bytes24 (And.intro @agg24 (And.intro @zero24 (And.intro @info25 (And.intro @size25 (And.intro @bytes25 @agg25))))))))))))))))))))))))))))))))))))))
def ty3 := And.intro @places25 (And.intro @zero25 (And.intro @info26 (And.intro @size26 (And.intro @bytes26 (And.intro @agg26 (And.intro @places26 (And.intro @zero26 (And.intro @info27 (And.intro @size27 (And.intro @bytes27 (And.intro @agg27 (And.intro @places27 (And.intro @zero27 (And.intro @info28 (And.intro @size28 (And.intro @bytes28 (And.intro @agg28 (And.intro @places28 (And.intro @zero28 (And.intro @info29 (And.intro @size29 (And.intro @bytes29 (And.intro @agg29 (And.intro @zero29 (And.intro @info35 (And.intro @size35 (And.intro @bytes35 (And.intro @agg35 (And.intro @zero35 (And.intro @info36 (And.intro @size36 (And.intro @bytes36 (And.intro @agg36 (And.intro @places36 (And.intro @zero36 (And.intro @info37 (And.intro @size37 (And.intro @bytes37 @agg37))))))))))))))))))))))))))))))))))))))
def ty4 := And.intro @places37 (And.intro @zero37 (And.intro @info40 (And.intro @size40 (And.intro @bytes40 (And.intro @agg40 (And.intro @zero40 (And.intro @info45 (And.intro @size45 (And.intro @bytes45 (And.intro @agg45 (And.intro @zero45 (And.intro @info49 (And.intro @size49 (And.intro @bytes49 (And.intro @agg49 (And.intro @zero49 (And.intro @info58 (And.intro @size58 (And.intro @bytes58 (And.intro @agg58 (And.intro @zero58 (And.intro @info59 (And.intro @size59 (And.intro @bytes59 (And.intro @agg59 (And.intro @places59 (And.intro @zero59 (And.intro @info60 (And.intro @size60 (And.intro @bytes60 (And.intro @agg60 (And.intro @places60 (And.intro @zero60 (And.intro @info66 (And.intro @size66 (And.intro @bytes66 (And.intro @agg66 (And.intro @zero66 @info70))))))))))))))))))))))))))))))))))))))
def ty5 := And.intro @size70 (And.intro @bytes70 (And.intro @agg70 (And.intro @places70 (And.intro @zero70 (And.intro @info71 (And.intro @size71 (And.intro @bytes71 (And.intro @agg71 (And.intro @places71 (And.intro @zero71 (And.intro @info77 (And.intro @size77 (And.intro @bytes77 (And.intro @agg77 (And.intro @zero77 (And.intro @info78 (And.intro @size78 (And.intro @bytes78 (And.intro @agg78 (And.intro @places78 (And.intro @zero78 (And.intro @info79 (And.intro @size79 (And.intro @bytes79 (And.intro @agg79 (And.intro @places79 (And.intro @zero79 (And.intro @info87 (And.intro @size87 (And.intro @bytes87 (And.intro @agg87 (And.intro @zero87 (And.intro @info88 (And.intro @size88 (And.intro @bytes88 (And.intro @agg88 (And.intro @zero88 (And.intro @info92 @size92))))))))))))))))))))))))))))))))))))))
def ty6 := And.intro @bytes92 (And.intro @agg92 (And.intro @places92 (And.intro @zero92 (And.intro @info93 (And.intro @size93 (And.intro @bytes93 (And.intro @agg93 (And.intro @places93 (And.intro @zero93 (And.intro @info94 (And.intro @size94 (And.intro @bytes94 (And.intro @agg94 (And.intro @zero94 (And.intro @info95 (And.intro @size95 (And.intro @bytes95 (And.intro @agg95 (And.intro @places95 (And.intro @zero95 (And.intro @info96 (And.intro @size96 (And.intro @bytes96 (And.intro @agg96 (And.intro @places96 (And.intro @zero96 (And.intro @info98 (And.intro @size98 (And.intro @bytes98 (And.intro @agg98 (And.intro @zero98 (And.intro @info99 (And.intro @size99 (And.intro @bytes99 (And.intro @agg99 (And.intro @zero99 (And.intro @info100 (And.intro @size100 @bytes100))))))))))))))))))))))))))))))))))))))
def ty7 := And.intro @agg100 (And.intro @zero100 (And.intro @info102 (And.intro @size102 (And.intro @bytes102 (And.intro @agg102 (And.intro @zero102 (And.intro @info103 (And.intro @size103 (And.intro @bytes103 (And.intro @agg103 (And.intro @zero103 (And.intro @info104 (And.intro @size104 (And.intro @bytes104 (And.intro @agg104 (And.intro @places104 (And.intro @zero104 (And.intro @info105 (And.intro @size105 (And.intro @bytes105 (And.intro @agg105 (And.intro @places105 (And.intro @zero105 (And.intro @underlying2 (And.intro @underlying3 (And.intro @underlying4 (And.intro @underlying5 (And.intro @underlying6 (And.intro @underlying7 (And.intro @underlying8 (And.intro @underlying9 (And.intro @underlying10 (And.intro @underlying11 (And.intro @underlying12 (And.intro @underlying13 (And.intro @underlying14 (And.intro @underlying15 (And.intro @underlying16 @underlying17))))))))))))))))))))))))))))))))))))))
def ty8 := And.intro @underlying18 (And.intro @underlying19 (And.intro @underlying21 (And.intro @underlying22 (And.intro @underlying23 (And.intro @underlying24 (And.intro @underlying25 (And.intro @underlying26 (And.intro @underlying27 (And.intro @underlying28 (And.intro @underlying29 (And.intro @underlying35 (And.intro @underlying36 (And.intro @underlying37 (And.intro @underlying40 (And.intro @underlying45 (And.intro @underlying49 (And.intro @underlying58 (And.intro @underlying59 (And.intro @underlying60 (And.intro @underlying66 (And.intro @underlying70 (And.intro @underlying71 (And.intro @underlying77 (And.intro @underlying78 (And.intro @underlying79 (And.intro @underlying87 (And.intro @underlying88 (And.intro @underlying92 (And.intro @underlying93 (And.intro @underlying94 (And.intro @underlying95 (And.intro @underlying96 (And.intro @underlying98 (And.intro @underlying99 (And.intro @underlying100 (And.intro @underlying102 (And.intro @underlying103 (And.intro @underlying104 @underlying105))))))))))))))))))))))))))))))))))))))
end Go.Proofs.Try
namespace Go.Proofs.Try
open Go Go.Sim Go.Sim.PV

/-- The least length that needs k further octets. -/
def least (k : Int) : Int := if k = 1 then 128 else if k = 2 then 256 else 65536

set_option maxHeartbeats 4000000 in
set_option maxRecDepth 10000 in
theorem least_w (n : Nat) (hn : 1 ≤ n) (k : Int) (h0 : 1 ≤ k) (h3 : k ≤ 3) : pcall prog X H n 43 [.int .i64 k] [] = some (.int .i64 (least k), []) := by
  obtain ⟨n, rfl⟩ : ∃ m, n = m + 1 := ⟨n - 1, by omega⟩
  rw [pcall_body rfl func43 rfl ntmps43 res43]
  have hk : k = 1 ∨ k = 2 ∨ k = 3 := by omega
  simp (disch := omega) only [wk0, wk1, wk2, wk3, wk4, wk5, wk6, wk7, wk8, List.length_map, List.getElem?_map, Bool.not_true, Bool.not_false, List.isEmpty_cons, List.isEmpty_nil, List.append_assoc, or_false, false_or, or_true, true_or, not_false_eq_true, List.flatten_cons, List.flatten_nil, Int.zero_mul, Int.reducePow, Nat.reducePow, back, backOne, giveBack, lentCells, noNew, noNew1, UInt8.reduceToNat, scrubSt, scrubId, scrub1, List.getD_eq_getElem?_getD, Option.getD_some, Option.getD_none, if_pos, if_neg, maxLen, List.length_drop, List.length_take, decide_eq_true, decide_eq_false, goes_loop, goesL_succ, reduceCtorEq, Int.toNat_zero, Int.toNat_one, and_self, true_and, and_true, Nat.le_refl, Int.toNat_natCast, Int.reduceToNat, Int.reduceLT, Int.reduceLE, Int.reduceEq, Int.reduceAdd, Int.reduceSub, Int.reduceMul, Int.reduceGT, Int.reduceGE, Int.reduceNe, Int.natCast_add, Int.natCast_one, Int.natCast_zero, Int.cast_ofNat_Int, ne_eq, not_true_eq_false, not_false_eq_true, gt_iff_lt, ge_iff_le, Option.join_some, Option.join_none, demCells, setCells, Nat.zero_add, Nat.add_zero, newBoxes, outFlat, PV.flat, flat1, outOne, PV.cells, store1, plain1, List.replicate_succ, List.replicate_zero, List.length_cons, List.length_nil, List.contains_nil, List.contains_cons, List.cons_append, List.nil_append, List.append_nil, List.set_cons_zero, List.set_cons_succ, List.getElem?_cons_zero, List.getElem?_cons_succ, List.getElem?_nil, Bool.false_eq_true, Bool.or_false, Bool.or_true, Bool.false_or, Bool.true_or, Bool.and_true, Bool.true_and, Bool.and_false, Bool.false_and, Bool.not_true, Bool.not_false, if_false, if_true, List.map_cons, List.map_nil, List.zip_cons_cons, List.zip_nil_right, List.flatMap_cons, List.flatMap_nil, Option.map_none, Option.map_some, Option.bind_some, Option.bind_none, Option.some.injEq, beq_self_eq_true, List.take_succ_cons, List.take_zero, List.drop_succ_cons, List.drop_zero, List.take_nil, List.drop_nil, List.all_cons, List.all_nil, Nat.reduceBEq, Nat.reduceAdd, Nat.reduceSub, Nat.reduceMul, Nat.reduceLT, Nat.reduceLeDiff, Nat.reduceEqDiff, decide_true, decide_false, List.size_toArray, List.getElem?_toArray, Option.isNone_some, ty0, ty1, ty2, ty3, ty4, ty5, ty6, ty7, ty8, mask43, cmask43, lm43, take43, wr43, carry43]
  rw [condK_dec]
  split
  · simp (disch := omega) only [wk0, wk1, wk2, wk3, wk4, wk5, wk6, wk7, wk8, List.length_map, List.getElem?_map, Bool.not_true, Bool.not_false, List.isEmpty_cons, List.isEmpty_nil, List.append_assoc, or_false, false_or, or_true, true_or, not_false_eq_true, List.flatten_cons, List.flatten_nil, Int.zero_mul, Int.reducePow, Nat.reducePow, back, backOne, giveBack, lentCells, noNew, noNew1, UInt8.reduceToNat, scrubSt, scrubId, scrub1, List.getD_eq_getElem?_getD, Option.getD_some, Option.getD_none, if_pos, if_neg, maxLen, List.length_drop, List.length_take, decide_eq_true, decide_eq_false, goes_loop, goesL_succ, reduceCtorEq, Int.toNat_zero, Int.toNat_one, and_self, true_and, and_true, Nat.le_refl, Int.toNat_natCast, Int.reduceToNat, Int.reduceLT, Int.reduceLE, Int.reduceEq, Int.reduceAdd, Int.reduceSub, Int.reduceMul, Int.reduceGT, Int.reduceGE, Int.reduceNe, Int.natCast_add, Int.natCast_one, Int.natCast_zero, Int.cast_ofNat_Int, ne_eq, not_true_eq_false, not_false_eq_true, gt_iff_lt, ge_iff_le, Option.join_some, Option.join_none, demCells, setCells, Nat.zero_add, Nat.add_zero, newBoxes, outFlat, PV.flat, flat1, outOne, PV.cells, store1, plain1, List.replicate_succ, List.replicate_zero, List.length_cons, List.length_nil, List.contains_nil, List.contains_cons, List.cons_append, List.nil_append, List.append_nil, List.set_cons_zero, List.set_cons_succ, List.getElem?_cons_zero, List.getElem?_cons_succ, List.getElem?_nil, Bool.false_eq_true, Bool.or_false, Bool.or_true, Bool.false_or, Bool.true_or, Bool.and_true, Bool.true_and, Bool.and_false, Bool.false_and, Bool.not_true, Bool.not_false, if_false, if_true, List.map_cons, List.map_nil, List.zip_cons_cons, List.zip_nil_right, List.flatMap_cons, List.flatMap_nil, Option.map_none, Option.map_some, Option.bind_some, Option.bind_none, Option.some.injEq, beq_self_eq_true, List.take_succ_cons, List.take_zero, List.drop_succ_cons, List.drop_zero, List.take_nil, List.drop_nil, List.all_cons, List.all_nil, Nat.reduceBEq, Nat.reduceAdd, Nat.reduceSub, Nat.reduceMul, Nat.reduceLT, Nat.reduceLeDiff, Nat.reduceEqDiff, decide_true, decide_false, List.size_toArray, List.getElem?_toArray, Option.isNone_some, ty0, ty1, ty2, ty3, ty4, ty5, ty6, ty7, ty8, mask43, cmask43, lm43, take43, wr43, carry43]
    rename_i hk1; rw [hk1]; rfl
  · simp (disch := omega) only [wk0, wk1, wk2, wk3, wk4, wk5, wk6, wk7, wk8, List.length_map, List.getElem?_map, Bool.not_true, Bool.not_false, List.isEmpty_cons, List.isEmpty_nil, List.append_assoc, or_false, false_or, or_true, true_or, not_false_eq_true, List.flatten_cons, List.flatten_nil, Int.zero_mul, Int.reducePow, Nat.reducePow, back, backOne, giveBack, lentCells, noNew, noNew1, UInt8.reduceToNat, scrubSt, scrubId, scrub1, List.getD_eq_getElem?_getD, Option.getD_some, Option.getD_none, if_pos, if_neg, maxLen, List.length_drop, List.length_take, decide_eq_true, decide_eq_false, goes_loop, goesL_succ, reduceCtorEq, Int.toNat_zero, Int.toNat_one, and_self, true_and, and_true, Nat.le_refl, Int.toNat_natCast, Int.reduceToNat, Int.reduceLT, Int.reduceLE, Int.reduceEq, Int.reduceAdd, Int.reduceSub, Int.reduceMul, Int.reduceGT, Int.reduceGE, Int.reduceNe, Int.natCast_add, Int.natCast_one, Int.natCast_zero, Int.cast_ofNat_Int, ne_eq, not_true_eq_false, not_false_eq_true, gt_iff_lt, ge_iff_le, Option.join_some, Option.join_none, demCells, setCells, Nat.zero_add, Nat.add_zero, newBoxes, outFlat, PV.flat, flat1, outOne, PV.cells, store1, plain1, List.replicate_succ, List.replicate_zero, List.length_cons, List.length_nil, List.contains_nil, List.contains_cons, List.cons_append, List.nil_append, List.append_nil, List.set_cons_zero, List.set_cons_succ, List.getElem?_cons_zero, List.getElem?_cons_succ, List.getElem?_nil, Bool.false_eq_true, Bool.or_false, Bool.or_true, Bool.false_or, Bool.true_or, Bool.and_true, Bool.true_and, Bool.and_false, Bool.false_and, Bool.not_true, Bool.not_false, if_false, if_true, List.map_cons, List.map_nil, List.zip_cons_cons, List.zip_nil_right, List.flatMap_cons, List.flatMap_nil, Option.map_none, Option.map_some, Option.bind_some, Option.bind_none, Option.some.injEq, beq_self_eq_true, List.take_succ_cons, List.take_zero, List.drop_succ_cons, List.drop_zero, List.take_nil, List.drop_nil, List.all_cons, List.all_nil, Nat.reduceBEq, Nat.reduceAdd, Nat.reduceSub, Nat.reduceMul, Nat.reduceLT, Nat.reduceLeDiff, Nat.reduceEqDiff, decide_true, decide_false, List.size_toArray, List.getElem?_toArray, Option.isNone_some, ty0, ty1, ty2, ty3, ty4, ty5, ty6, ty7, ty8, mask43, cmask43, lm43, take43, wr43, carry43]
    rcases hk with h | h | h
    · omega
    · subst h; rfl
    · subst h; rfl

theorem least1 : least 1 = 128 := rfl
theorem least2 : least 2 = 256 := rfl
theorem least3 : least 3 = 65536 := rfl

structure Elem where
  tag : Nat
  content : List UInt8
  raw : List UInt8

def readAt (t : Nat) (b : List UInt8) (k n : Nat) : Except Int (Elem × List UInt8) :=
  if b.length - k < n then .error 3 else .ok (⟨t, (b.take (k + n)).drop k, b.take (k + n)⟩, b.drop (k + n))

def be (l : List UInt8) : Nat := l.foldl (fun n c => 256 * n + c.toNat) 0

/-- The element at the beginning of b, and the bytes behind it. -/
def read : List UInt8 → Except Int (Elem × List UInt8)
  | [] => .error 3
  | [t] => .error (if t.toNat % 32 = 31 then 5 else 3)
  | t :: l :: r =>
    if t.toNat % 32 = 31 then .error 5
    else if l.toNat = 128 ∨ 131 < l.toNat then .error 6
    else if l.toNat ≤ 127 then readAt t.toNat (t :: l :: r) 2 l.toNat
    else if r.length < l.toNat - 128 then .error 3
    else if (be (r.take (l.toNat - 128)) : Int) < least (l.toNat - 128) ∨ 131072 < be (r.take (l.toNat - 128)) then .error 6
    else readAt t.toNat (t :: l :: r) (l.toNat - 126) (be (r.take (l.toNat - 128)))

def elemP (e : Elem) : PV := .agg [.int .i64 e.tag, .str e.content, .str e.raw]
def noElem : PV := .agg [.int .i64 0, .str [], .str []]
def readP : Except Int (Elem × List UInt8) → PV
  | .error x => .tup [noElem, .str [], .int .i64 x]
  | .ok (e, r) => .tup [elemP e, .str r, .int .i64 0]

set_option maxHeartbeats 4000000 in
set_option maxRecDepth 10000 in
theorem read_w (n : Nat) (hn : 7 ≤ n) (b : List UInt8) (hb : b.length ≤ 9223372036854775807) : pcall prog X H n 38 [.str b] [] = some (readP (read b), []) := by
  obtain ⟨n, rfl⟩ : ∃ m, n = m + 7 := ⟨n - 7, by omega⟩
  rw [pcall_body rfl func38 rfl ntmps38 res38]
  rcases b with _ | ⟨t, _ | ⟨l, r⟩⟩
  · simp (disch := omega) only [wk0, wk1, wk2, wk3, wk4, wk5, wk6, wk7, wk8, List.length_map, List.getElem?_map, Bool.not_true, Bool.not_false, List.isEmpty_cons, List.isEmpty_nil, List.append_assoc, or_false, false_or, or_true, true_or, not_false_eq_true, List.flatten_cons, List.flatten_nil, Int.zero_mul, Int.reducePow, Nat.reducePow, back, backOne, giveBack, lentCells, noNew, noNew1, UInt8.reduceToNat, scrubSt, scrubId, scrub1, List.getD_eq_getElem?_getD, Option.getD_some, Option.getD_none, if_pos, if_neg, maxLen, List.length_drop, List.length_take, decide_eq_true, decide_eq_false, goes_loop, goesL_succ, reduceCtorEq, Int.toNat_zero, Int.toNat_one, and_self, true_and, and_true, Nat.le_refl, Int.toNat_natCast, Int.reduceToNat, Int.reduceLT, Int.reduceLE, Int.reduceEq, Int.reduceAdd, Int.reduceSub, Int.reduceMul, Int.reduceGT, Int.reduceGE, Int.reduceNe, Int.natCast_add, Int.natCast_one, Int.natCast_zero, Int.cast_ofNat_Int, ne_eq, not_true_eq_false, not_false_eq_true, gt_iff_lt, ge_iff_le, Option.join_some, Option.join_none, demCells, setCells, Nat.zero_add, Nat.add_zero, newBoxes, outFlat, PV.flat, flat1, outOne, PV.cells, store1, plain1, List.replicate_succ, List.replicate_zero, List.length_cons, List.length_nil, List.contains_nil, List.contains_cons, List.cons_append, List.nil_append, List.append_nil, List.set_cons_zero, List.set_cons_succ, List.getElem?_cons_zero, List.getElem?_cons_succ, List.getElem?_nil, Bool.false_eq_true, Bool.or_false, Bool.or_true, Bool.false_or, Bool.true_or, Bool.and_true, Bool.true_and, Bool.and_false, Bool.false_and, Bool.not_true, Bool.not_false, if_false, if_true, List.map_cons, List.map_nil, List.zip_cons_cons, List.zip_nil_right, List.flatMap_cons, List.flatMap_nil, Option.map_none, Option.map_some, Option.bind_some, Option.bind_none, Option.some.injEq, beq_self_eq_true, List.take_succ_cons, List.take_zero, List.drop_succ_cons, List.drop_zero, List.take_nil, List.drop_nil, List.all_cons, List.all_nil, Nat.reduceBEq, Nat.reduceAdd, Nat.reduceSub, Nat.reduceMul, Nat.reduceLT, Nat.reduceLeDiff, Nat.reduceEqDiff, decide_true, decide_false, List.size_toArray, List.getElem?_toArray, Option.isNone_some, ty0, ty1, ty2, ty3, ty4, ty5, ty6, ty7, ty8, mask38, cmask38, lm38, take38, wr38, carry38, fuel]
    rfl
  · have ht : t.toNat < 256 := t.toNat_lt
    by_cases h1 : t.toNat % 32 = 31
    · simp (disch := omega) only [wk0, wk1, wk2, wk3, wk4, wk5, wk6, wk7, wk8, List.length_map, List.getElem?_map, Bool.not_true, Bool.not_false, List.isEmpty_cons, List.isEmpty_nil, List.append_assoc, or_false, false_or, or_true, true_or, not_false_eq_true, List.flatten_cons, List.flatten_nil, Int.zero_mul, Int.reducePow, Nat.reducePow, back, backOne, giveBack, lentCells, noNew, noNew1, UInt8.reduceToNat, scrubSt, scrubId, scrub1, List.getD_eq_getElem?_getD, Option.getD_some, Option.getD_none, if_pos, if_neg, maxLen, List.length_drop, List.length_take, decide_eq_true, decide_eq_false, goes_loop, goesL_succ, reduceCtorEq, Int.toNat_zero, Int.toNat_one, and_self, true_and, and_true, Nat.le_refl, Int.toNat_natCast, Int.reduceToNat, Int.reduceLT, Int.reduceLE, Int.reduceEq, Int.reduceAdd, Int.reduceSub, Int.reduceMul, Int.reduceGT, Int.reduceGE, Int.reduceNe, Int.natCast_add, Int.natCast_one, Int.natCast_zero, Int.cast_ofNat_Int, ne_eq, not_true_eq_false, not_false_eq_true, gt_iff_lt, ge_iff_le, Option.join_some, Option.join_none, demCells, setCells, Nat.zero_add, Nat.add_zero, newBoxes, outFlat, PV.flat, flat1, outOne, PV.cells, store1, plain1, List.replicate_succ, List.replicate_zero, List.length_cons, List.length_nil, List.contains_nil, List.contains_cons, List.cons_append, List.nil_append, List.append_nil, List.set_cons_zero, List.set_cons_succ, List.getElem?_cons_zero, List.getElem?_cons_succ, List.getElem?_nil, Bool.false_eq_true, Bool.or_false, Bool.or_true, Bool.false_or, Bool.true_or, Bool.and_true, Bool.true_and, Bool.and_false, Bool.false_and, Bool.not_true, Bool.not_false, if_false, if_true, List.map_cons, List.map_nil, List.zip_cons_cons, List.zip_nil_right, List.flatMap_cons, List.flatMap_nil, Option.map_none, Option.map_some, Option.bind_some, Option.bind_none, Option.some.injEq, beq_self_eq_true, List.take_succ_cons, List.take_zero, List.drop_succ_cons, List.drop_zero, List.take_nil, List.drop_nil, List.all_cons, List.all_nil, Nat.reduceBEq, Nat.reduceAdd, Nat.reduceSub, Nat.reduceMul, Nat.reduceLT, Nat.reduceLeDiff, Nat.reduceEqDiff, decide_true, decide_false, List.size_toArray, List.getElem?_toArray, Option.isNone_some, ty0, ty1, ty2, ty3, ty4, ty5, ty6, ty7, ty8, mask38, cmask38, lm38, take38, wr38, carry38, fuel]
      simp [read, h1, readP]; rfl
    · simp (disch := omega) only [wk0, wk1, wk2, wk3, wk4, wk5, wk6, wk7, wk8, List.length_map, List.getElem?_map, Bool.not_true, Bool.not_false, List.isEmpty_cons, List.isEmpty_nil, List.append_assoc, or_false, false_or, or_true, true_or, not_false_eq_true, List.flatten_cons, List.flatten_nil, Int.zero_mul, Int.reducePow, Nat.reducePow, back, backOne, giveBack, lentCells, noNew, noNew1, UInt8.reduceToNat, scrubSt, scrubId, scrub1, List.getD_eq_getElem?_getD, Option.getD_some, Option.getD_none, if_pos, if_neg, maxLen, List.length_drop, List.length_take, decide_eq_true, decide_eq_false, goes_loop, goesL_succ, reduceCtorEq, Int.toNat_zero, Int.toNat_one, and_self, true_and, and_true, Nat.le_refl, Int.toNat_natCast, Int.reduceToNat, Int.reduceLT, Int.reduceLE, Int.reduceEq, Int.reduceAdd, Int.reduceSub, Int.reduceMul, Int.reduceGT, Int.reduceGE, Int.reduceNe, Int.natCast_add, Int.natCast_one, Int.natCast_zero, Int.cast_ofNat_Int, ne_eq, not_true_eq_false, not_false_eq_true, gt_iff_lt, ge_iff_le, Option.join_some, Option.join_none, demCells, setCells, Nat.zero_add, Nat.add_zero, newBoxes, outFlat, PV.flat, flat1, outOne, PV.cells, store1, plain1, List.replicate_succ, List.replicate_zero, List.length_cons, List.length_nil, List.contains_nil, List.contains_cons, List.cons_append, List.nil_append, List.append_nil, List.set_cons_zero, List.set_cons_succ, List.getElem?_cons_zero, List.getElem?_cons_succ, List.getElem?_nil, Bool.false_eq_true, Bool.or_false, Bool.or_true, Bool.false_or, Bool.true_or, Bool.and_true, Bool.true_and, Bool.and_false, Bool.false_and, Bool.not_true, Bool.not_false, if_false, if_true, List.map_cons, List.map_nil, List.zip_cons_cons, List.zip_nil_right, List.flatMap_cons, List.flatMap_nil, Option.map_none, Option.map_some, Option.bind_some, Option.bind_none, Option.some.injEq, beq_self_eq_true, List.take_succ_cons, List.take_zero, List.drop_succ_cons, List.drop_zero, List.take_nil, List.drop_nil, List.all_cons, List.all_nil, Nat.reduceBEq, Nat.reduceAdd, Nat.reduceSub, Nat.reduceMul, Nat.reduceLT, Nat.reduceLeDiff, Nat.reduceEqDiff, decide_true, decide_false, List.size_toArray, List.getElem?_toArray, Option.isNone_some, ty0, ty1, ty2, ty3, ty4, ty5, ty6, ty7, ty8, mask38, cmask38, lm38, take38, wr38, carry38, fuel]
      simp [read, h1, readP]; rfl
  · have ht : t.toNat < 256 := t.toNat_lt
    have hl : l.toNat < 256 := l.toNat_lt
    simp only [List.length_cons] at hb
    by_cases h1 : t.toNat % 32 = 31
    · simp (disch := omega) only [wk0, wk1, wk2, wk3, wk4, wk5, wk6, wk7, wk8, List.length_map, List.getElem?_map, Bool.not_true, Bool.not_false, List.isEmpty_cons, List.isEmpty_nil, List.append_assoc, or_false, false_or, or_true, true_or, not_false_eq_true, List.flatten_cons, List.flatten_nil, Int.zero_mul, Int.reducePow, Nat.reducePow, back, backOne, giveBack, lentCells, noNew, noNew1, UInt8.reduceToNat, scrubSt, scrubId, scrub1, List.getD_eq_getElem?_getD, Option.getD_some, Option.getD_none, if_pos, if_neg, maxLen, List.length_drop, List.length_take, decide_eq_true, decide_eq_false, goes_loop, goesL_succ, reduceCtorEq, Int.toNat_zero, Int.toNat_one, and_self, true_and, and_true, Nat.le_refl, Int.toNat_natCast, Int.reduceToNat, Int.reduceLT, Int.reduceLE, Int.reduceEq, Int.reduceAdd, Int.reduceSub, Int.reduceMul, Int.reduceGT, Int.reduceGE, Int.reduceNe, Int.natCast_add, Int.natCast_one, Int.natCast_zero, Int.cast_ofNat_Int, ne_eq, not_true_eq_false, not_false_eq_true, gt_iff_lt, ge_iff_le, Option.join_some, Option.join_none, demCells, setCells, Nat.zero_add, Nat.add_zero, newBoxes, outFlat, PV.flat, flat1, outOne, PV.cells, store1, plain1, List.replicate_succ, List.replicate_zero, List.length_cons, List.length_nil, List.contains_nil, List.contains_cons, List.cons_append, List.nil_append, List.append_nil, List.set_cons_zero, List.set_cons_succ, List.getElem?_cons_zero, List.getElem?_cons_succ, List.getElem?_nil, Bool.false_eq_true, Bool.or_false, Bool.or_true, Bool.false_or, Bool.true_or, Bool.and_true, Bool.true_and, Bool.and_false, Bool.false_and, Bool.not_true, Bool.not_false, if_false, if_true, List.map_cons, List.map_nil, List.zip_cons_cons, List.zip_nil_right, List.flatMap_cons, List.flatMap_nil, Option.map_none, Option.map_some, Option.bind_some, Option.bind_none, Option.some.injEq, beq_self_eq_true, List.take_succ_cons, List.take_zero, List.drop_succ_cons, List.drop_zero, List.take_nil, List.drop_nil, List.all_cons, List.all_nil, Nat.reduceBEq, Nat.reduceAdd, Nat.reduceSub, Nat.reduceMul, Nat.reduceLT, Nat.reduceLeDiff, Nat.reduceEqDiff, decide_true, decide_false, List.size_toArray, List.getElem?_toArray, Option.isNone_some, ty0, ty1, ty2, ty3, ty4, ty5, ty6, ty7, ty8, mask38, cmask38, lm38, take38, wr38, carry38, fuel]
      simp [read, h1, readP]; rfl
    by_cases h2 : l.toNat = 128
    · simp (disch := omega) only [wk0, wk1, wk2, wk3, wk4, wk5, wk6, wk7, wk8, List.length_map, List.getElem?_map, Bool.not_true, Bool.not_false, List.isEmpty_cons, List.isEmpty_nil, List.append_assoc, or_false, false_or, or_true, true_or, not_false_eq_true, List.flatten_cons, List.flatten_nil, Int.zero_mul, Int.reducePow, Nat.reducePow, back, backOne, giveBack, lentCells, noNew, noNew1, UInt8.reduceToNat, scrubSt, scrubId, scrub1, List.getD_eq_getElem?_getD, Option.getD_some, Option.getD_none, if_pos, if_neg, maxLen, List.length_drop, List.length_take, decide_eq_true, decide_eq_false, goes_loop, goesL_succ, reduceCtorEq, Int.toNat_zero, Int.toNat_one, and_self, true_and, and_true, Nat.le_refl, Int.toNat_natCast, Int.reduceToNat, Int.reduceLT, Int.reduceLE, Int.reduceEq, Int.reduceAdd, Int.reduceSub, Int.reduceMul, Int.reduceGT, Int.reduceGE, Int.reduceNe, Int.natCast_add, Int.natCast_one, Int.natCast_zero, Int.cast_ofNat_Int, ne_eq, not_true_eq_false, not_false_eq_true, gt_iff_lt, ge_iff_le, Option.join_some, Option.join_none, demCells, setCells, Nat.zero_add, Nat.add_zero, newBoxes, outFlat, PV.flat, flat1, outOne, PV.cells, store1, plain1, List.replicate_succ, List.replicate_zero, List.length_cons, List.length_nil, List.contains_nil, List.contains_cons, List.cons_append, List.nil_append, List.append_nil, List.set_cons_zero, List.set_cons_succ, List.getElem?_cons_zero, List.getElem?_cons_succ, List.getElem?_nil, Bool.false_eq_true, Bool.or_false, Bool.or_true, Bool.false_or, Bool.true_or, Bool.and_true, Bool.true_and, Bool.and_false, Bool.false_and, Bool.not_true, Bool.not_false, if_false, if_true, List.map_cons, List.map_nil, List.zip_cons_cons, List.zip_nil_right, List.flatMap_cons, List.flatMap_nil, Option.map_none, Option.map_some, Option.bind_some, Option.bind_none, Option.some.injEq, beq_self_eq_true, List.take_succ_cons, List.take_zero, List.drop_succ_cons, List.drop_zero, List.take_nil, List.drop_nil, List.all_cons, List.all_nil, Nat.reduceBEq, Nat.reduceAdd, Nat.reduceSub, Nat.reduceMul, Nat.reduceLT, Nat.reduceLeDiff, Nat.reduceEqDiff, decide_true, decide_false, List.size_toArray, List.getElem?_toArray, Option.isNone_some, ty0, ty1, ty2, ty3, ty4, ty5, ty6, ty7, ty8, mask38, cmask38, lm38, take38, wr38, carry38, fuel]
      simp [read, h1, readP, h2]; rfl
    by_cases h3 : 131 < l.toNat
    · simp (disch := omega) only [wk0, wk1, wk2, wk3, wk4, wk5, wk6, wk7, wk8, List.length_map, List.getElem?_map, Bool.not_true, Bool.not_false, List.isEmpty_cons, List.isEmpty_nil, List.append_assoc, or_false, false_or, or_true, true_or, not_false_eq_true, List.flatten_cons, List.flatten_nil, Int.zero_mul, Int.reducePow, Nat.reducePow, back, backOne, giveBack, lentCells, noNew, noNew1, UInt8.reduceToNat, scrubSt, scrubId, scrub1, List.getD_eq_getElem?_getD, Option.getD_some, Option.getD_none, if_pos, if_neg, maxLen, List.length_drop, List.length_take, decide_eq_true, decide_eq_false, goes_loop, goesL_succ, reduceCtorEq, Int.toNat_zero, Int.toNat_one, and_self, true_and, and_true, Nat.le_refl, Int.toNat_natCast, Int.reduceToNat, Int.reduceLT, Int.reduceLE, Int.reduceEq, Int.reduceAdd, Int.reduceSub, Int.reduceMul, Int.reduceGT, Int.reduceGE, Int.reduceNe, Int.natCast_add, Int.natCast_one, Int.natCast_zero, Int.cast_ofNat_Int, ne_eq, not_true_eq_false, not_false_eq_true, gt_iff_lt, ge_iff_le, Option.join_some, Option.join_none, demCells, setCells, Nat.zero_add, Nat.add_zero, newBoxes, outFlat, PV.flat, flat1, outOne, PV.cells, store1, plain1, List.replicate_succ, List.replicate_zero, List.length_cons, List.length_nil, List.contains_nil, List.contains_cons, List.cons_append, List.nil_append, List.append_nil, List.set_cons_zero, List.set_cons_succ, List.getElem?_cons_zero, List.getElem?_cons_succ, List.getElem?_nil, Bool.false_eq_true, Bool.or_false, Bool.or_true, Bool.false_or, Bool.true_or, Bool.and_true, Bool.true_and, Bool.and_false, Bool.false_and, Bool.not_true, Bool.not_false, if_false, if_true, List.map_cons, List.map_nil, List.zip_cons_cons, List.zip_nil_right, List.flatMap_cons, List.flatMap_nil, Option.map_none, Option.map_some, Option.bind_some, Option.bind_none, Option.some.injEq, beq_self_eq_true, List.take_succ_cons, List.take_zero, List.drop_succ_cons, List.drop_zero, List.take_nil, List.drop_nil, List.all_cons, List.all_nil, Nat.reduceBEq, Nat.reduceAdd, Nat.reduceSub, Nat.reduceMul, Nat.reduceLT, Nat.reduceLeDiff, Nat.reduceEqDiff, decide_true, decide_false, List.size_toArray, List.getElem?_toArray, Option.isNone_some, ty0, ty1, ty2, ty3, ty4, ty5, ty6, ty7, ty8, mask38, cmask38, lm38, take38, wr38, carry38, fuel]
      simp [read, h1, readP, h2, h3]; rfl
    by_cases h4 : l.toNat ≤ 127
    · by_cases h5 : r.length < l.toNat
      · simp (disch := omega) only [wk0, wk1, wk2, wk3, wk4, wk5, wk6, wk7, wk8, List.length_map, List.getElem?_map, Bool.not_true, Bool.not_false, List.isEmpty_cons, List.isEmpty_nil, List.append_assoc, or_false, false_or, or_true, true_or, not_false_eq_true, List.flatten_cons, List.flatten_nil, Int.zero_mul, Int.reducePow, Nat.reducePow, back, backOne, giveBack, lentCells, noNew, noNew1, UInt8.reduceToNat, scrubSt, scrubId, scrub1, List.getD_eq_getElem?_getD, Option.getD_some, Option.getD_none, if_pos, if_neg, maxLen, List.length_drop, List.length_take, decide_eq_true, decide_eq_false, goes_loop, goesL_succ, reduceCtorEq, Int.toNat_zero, Int.toNat_one, and_self, true_and, and_true, Nat.le_refl, Int.toNat_natCast, Int.reduceToNat, Int.reduceLT, Int.reduceLE, Int.reduceEq, Int.reduceAdd, Int.reduceSub, Int.reduceMul, Int.reduceGT, Int.reduceGE, Int.reduceNe, Int.natCast_add, Int.natCast_one, Int.natCast_zero, Int.cast_ofNat_Int, ne_eq, not_true_eq_false, not_false_eq_true, gt_iff_lt, ge_iff_le, Option.join_some, Option.join_none, demCells, setCells, Nat.zero_add, Nat.add_zero, newBoxes, outFlat, PV.flat, flat1, outOne, PV.cells, store1, plain1, List.replicate_succ, List.replicate_zero, List.length_cons, List.length_nil, List.contains_nil, List.contains_cons, List.cons_append, List.nil_append, List.append_nil, List.set_cons_zero, List.set_cons_succ, List.getElem?_cons_zero, List.getElem?_cons_succ, List.getElem?_nil, Bool.false_eq_true, Bool.or_false, Bool.or_true, Bool.false_or, Bool.true_or, Bool.and_true, Bool.true_and, Bool.and_false, Bool.false_and, Bool.not_true, Bool.not_false, if_false, if_true, List.map_cons, List.map_nil, List.zip_cons_cons, List.zip_nil_right, List.flatMap_cons, List.flatMap_nil, Option.map_none, Option.map_some, Option.bind_some, Option.bind_none, Option.some.injEq, beq_self_eq_true, List.take_succ_cons, List.take_zero, List.drop_succ_cons, List.drop_zero, List.take_nil, List.drop_nil, List.all_cons, List.all_nil, Nat.reduceBEq, Nat.reduceAdd, Nat.reduceSub, Nat.reduceMul, Nat.reduceLT, Nat.reduceLeDiff, Nat.reduceEqDiff, decide_true, decide_false, List.size_toArray, List.getElem?_toArray, Option.isNone_some, ty0, ty1, ty2, ty3, ty4, ty5, ty6, ty7, ty8, mask38, cmask38, lm38, take38, wr38, carry38, fuel]
        simp [read, h1, readP, h2, h3, h4, readAt, h5]; rfl
      · simp (disch := omega) only [wk0, wk1, wk2, wk3, wk4, wk5, wk6, wk7, wk8, List.length_map, List.getElem?_map, Bool.not_true, Bool.not_false, List.isEmpty_cons, List.isEmpty_nil, List.append_assoc, or_false, false_or, or_true, true_or, not_false_eq_true, List.flatten_cons, List.flatten_nil, Int.zero_mul, Int.reducePow, Nat.reducePow, back, backOne, giveBack, lentCells, noNew, noNew1, UInt8.reduceToNat, scrubSt, scrubId, scrub1, List.getD_eq_getElem?_getD, Option.getD_some, Option.getD_none, if_pos, if_neg, maxLen, List.length_drop, List.length_take, decide_eq_true, decide_eq_false, goes_loop, goesL_succ, reduceCtorEq, Int.toNat_zero, Int.toNat_one, and_self, true_and, and_true, Nat.le_refl, Int.toNat_natCast, Int.reduceToNat, Int.reduceLT, Int.reduceLE, Int.reduceEq, Int.reduceAdd, Int.reduceSub, Int.reduceMul, Int.reduceGT, Int.reduceGE, Int.reduceNe, Int.natCast_add, Int.natCast_one, Int.natCast_zero, Int.cast_ofNat_Int, ne_eq, not_true_eq_false, not_false_eq_true, gt_iff_lt, ge_iff_le, Option.join_some, Option.join_none, demCells, setCells, Nat.zero_add, Nat.add_zero, newBoxes, outFlat, PV.flat, flat1, outOne, PV.cells, store1, plain1, List.replicate_succ, List.replicate_zero, List.length_cons, List.length_nil, List.contains_nil, List.contains_cons, List.cons_append, List.nil_append, List.append_nil, List.set_cons_zero, List.set_cons_succ, List.getElem?_cons_zero, List.getElem?_cons_succ, List.getElem?_nil, Bool.false_eq_true, Bool.or_false, Bool.or_true, Bool.false_or, Bool.true_or, Bool.and_true, Bool.true_and, Bool.and_false, Bool.false_and, Bool.not_true, Bool.not_false, if_false, if_true, List.map_cons, List.map_nil, List.zip_cons_cons, List.zip_nil_right, List.flatMap_cons, List.flatMap_nil, Option.map_none, Option.map_some, Option.bind_some, Option.bind_none, Option.some.injEq, beq_self_eq_true, List.take_succ_cons, List.take_zero, List.drop_succ_cons, List.drop_zero, List.take_nil, List.drop_nil, List.all_cons, List.all_nil, Nat.reduceBEq, Nat.reduceAdd, Nat.reduceSub, Nat.reduceMul, Nat.reduceLT, Nat.reduceLeDiff, Nat.reduceEqDiff, decide_true, decide_false, List.size_toArray, List.getElem?_toArray, Option.isNone_some, ty0, ty1, ty2, ty3, ty4, ty5, ty6, ty7, ty8, mask38, cmask38, lm38, take38, wr38, carry38, fuel]
        rw [goOps_nil_draw]
        rotate_left
        · simp only [drawOk, wk0, wk1, wk2, wk3, wk4, wk5, wk6, wk7, wk8, List.length_map, List.getElem?_map, Bool.not_true, Bool.not_false, List.isEmpty_cons, List.isEmpty_nil, List.append_assoc, or_false, false_or, or_true, true_or, not_false_eq_true, List.flatten_cons, List.flatten_nil, Int.zero_mul, Int.reducePow, Nat.reducePow, back, backOne, giveBack, lentCells, noNew, noNew1, UInt8.reduceToNat, scrubSt, scrubId, scrub1, List.getD_eq_getElem?_getD, Option.getD_some, Option.getD_none, if_pos, if_neg, maxLen, List.length_drop, List.length_take, decide_eq_true, decide_eq_false, goes_loop, goesL_succ, reduceCtorEq, Int.toNat_zero, Int.toNat_one, and_self, true_and, and_true, Nat.le_refl, Int.toNat_natCast, Int.reduceToNat, Int.reduceLT, Int.reduceLE, Int.reduceEq, Int.reduceAdd, Int.reduceSub, Int.reduceMul, Int.reduceGT, Int.reduceGE, Int.reduceNe, Int.natCast_add, Int.natCast_one, Int.natCast_zero, Int.cast_ofNat_Int, ne_eq, not_true_eq_false, not_false_eq_true, gt_iff_lt, ge_iff_le, Option.join_some, Option.join_none, demCells, setCells, Nat.zero_add, Nat.add_zero, newBoxes, outFlat, PV.flat, flat1, outOne, PV.cells, store1, plain1, List.replicate_succ, List.replicate_zero, List.length_cons, List.length_nil, List.contains_nil, List.contains_cons, List.cons_append, List.nil_append, List.append_nil, List.set_cons_zero, List.set_cons_succ, List.getElem?_cons_zero, List.getElem?_cons_succ, List.getElem?_nil, Bool.false_eq_true, Bool.or_false, Bool.or_true, Bool.false_or, Bool.true_or, Bool.and_true, Bool.true_and, Bool.and_false, Bool.false_and, Bool.not_true, Bool.not_false, if_false, if_true, List.map_cons, List.map_nil, List.zip_cons_cons, List.zip_nil_right, List.flatMap_cons, List.flatMap_nil, Option.map_none, Option.map_some, Option.bind_some, Option.bind_none, Option.some.injEq, beq_self_eq_true, List.take_succ_cons, List.take_zero, List.drop_succ_cons, List.drop_zero, List.take_nil, List.drop_nil, List.all_cons, List.all_nil, Nat.reduceBEq, Nat.reduceAdd, Nat.reduceSub, Nat.reduceMul, Nat.reduceLT, Nat.reduceLeDiff, Nat.reduceEqDiff, decide_true, decide_false, List.size_toArray, List.getElem?_toArray, Option.isNone_some]
          kernel_rfl
        simp (disch := omega) only [wk0, wk1, wk2, wk3, wk4, wk5, wk6, wk7, wk8, List.length_map, List.getElem?_map, Bool.not_true, Bool.not_false, List.isEmpty_cons, List.isEmpty_nil, List.append_assoc, or_false, false_or, or_true, true_or, not_false_eq_true, List.flatten_cons, List.flatten_nil, Int.zero_mul, Int.reducePow, Nat.reducePow, back, backOne, giveBack, lentCells, noNew, noNew1, UInt8.reduceToNat, scrubSt, scrubId, scrub1, List.getD_eq_getElem?_getD, Option.getD_some, Option.getD_none, if_pos, if_neg, maxLen, List.length_drop, List.length_take, decide_eq_true, decide_eq_false, goes_loop, goesL_succ, reduceCtorEq, Int.toNat_zero, Int.toNat_one, and_self, true_and, and_true, Nat.le_refl, Int.toNat_natCast, Int.reduceToNat, Int.reduceLT, Int.reduceLE, Int.reduceEq, Int.reduceAdd, Int.reduceSub, Int.reduceMul, Int.reduceGT, Int.reduceGE, Int.reduceNe, Int.natCast_add, Int.natCast_one, Int.natCast_zero, Int.cast_ofNat_Int, ne_eq, not_true_eq_false, not_false_eq_true, gt_iff_lt, ge_iff_le, Option.join_some, Option.join_none, demCells, setCells, Nat.zero_add, Nat.add_zero, newBoxes, outFlat, PV.flat, flat1, outOne, PV.cells, store1, plain1, List.replicate_succ, List.replicate_zero, List.length_cons, List.length_nil, List.contains_nil, List.contains_cons, List.cons_append, List.nil_append, List.append_nil, List.set_cons_zero, List.set_cons_succ, List.getElem?_cons_zero, List.getElem?_cons_succ, List.getElem?_nil, Bool.false_eq_true, Bool.or_false, Bool.or_true, Bool.false_or, Bool.true_or, Bool.and_true, Bool.true_and, Bool.and_false, Bool.false_and, Bool.not_true, Bool.not_false, if_false, if_true, List.map_cons, List.map_nil, List.zip_cons_cons, List.zip_nil_right, List.flatMap_cons, List.flatMap_nil, Option.map_none, Option.map_some, Option.bind_some, Option.bind_none, Option.some.injEq, beq_self_eq_true, List.take_succ_cons, List.take_zero, List.drop_succ_cons, List.drop_zero, List.take_nil, List.drop_nil, List.all_cons, List.all_nil, Nat.reduceBEq, Nat.reduceAdd, Nat.reduceSub, Nat.reduceMul, Nat.reduceLT, Nat.reduceLeDiff, Nat.reduceEqDiff, decide_true, decide_false, List.size_toArray, List.getElem?_toArray, Option.isNone_some, ty0, ty1, ty2, ty3, ty4, ty5, ty6, ty7, ty8, mask38, cmask38, lm38, take38, wr38, carry38, fuel]
        have e1 : ((2 : Int) + (l.toNat : Int)).toNat = 2 + l.toNat := by omega
        simp [read, h1, readP, h2, h3, h4, readAt, h5, elemP, e1]
    by_cases h5 : r.length < l.toNat - 128
    · simp (disch := omega) only [wk0, wk1, wk2, wk3, wk4, wk5, wk6, wk7, wk8, List.length_map, List.getElem?_map, Bool.not_true, Bool.not_false, List.isEmpty_cons, List.isEmpty_nil, List.append_assoc, or_false, false_or, or_true, true_or, not_false_eq_true, List.flatten_cons, List.flatten_nil, Int.zero_mul, Int.reducePow, Nat.reducePow, back, backOne, giveBack, lentCells, noNew, noNew1, UInt8.reduceToNat, scrubSt, scrubId, scrub1, List.getD_eq_getElem?_getD, Option.getD_some, Option.getD_none, if_pos, if_neg, maxLen, List.length_drop, List.length_take, decide_eq_true, decide_eq_false, goes_loop, goesL_succ, reduceCtorEq, Int.toNat_zero, Int.toNat_one, and_self, true_and, and_true, Nat.le_refl, Int.toNat_natCast, Int.reduceToNat, Int.reduceLT, Int.reduceLE, Int.reduceEq, Int.reduceAdd, Int.reduceSub, Int.reduceMul, Int.reduceGT, Int.reduceGE, Int.reduceNe, Int.natCast_add, Int.natCast_one, Int.natCast_zero, Int.cast_ofNat_Int, ne_eq, not_true_eq_false, not_false_eq_true, gt_iff_lt, ge_iff_le, Option.join_some, Option.join_none, demCells, setCells, Nat.zero_add, Nat.add_zero, newBoxes, outFlat, PV.flat, flat1, outOne, PV.cells, store1, plain1, List.replicate_succ, List.replicate_zero, List.length_cons, List.length_nil, List.contains_nil, List.contains_cons, List.cons_append, List.nil_append, List.append_nil, List.set_cons_zero, List.set_cons_succ, List.getElem?_cons_zero, List.getElem?_cons_succ, List.getElem?_nil, Bool.false_eq_true, Bool.or_false, Bool.or_true, Bool.false_or, Bool.true_or, Bool.and_true, Bool.true_and, Bool.and_false, Bool.false_and, Bool.not_true, Bool.not_false, if_false, if_true, List.map_cons, List.map_nil, List.zip_cons_cons, List.zip_nil_right, List.flatMap_cons, List.flatMap_nil, Option.map_none, Option.map_some, Option.bind_some, Option.bind_none, Option.some.injEq, beq_self_eq_true, List.take_succ_cons, List.take_zero, List.drop_succ_cons, List.drop_zero, List.take_nil, List.drop_nil, List.all_cons, List.all_nil, Nat.reduceBEq, Nat.reduceAdd, Nat.reduceSub, Nat.reduceMul, Nat.reduceLT, Nat.reduceLeDiff, Nat.reduceEqDiff, decide_true, decide_false, List.size_toArray, List.getElem?_toArray, Option.isNone_some, ty0, ty1, ty2, ty3, ty4, ty5, ty6, ty7, ty8, mask38, cmask38, lm38, take38, wr38, carry38, fuel]
      simp [read, h1, readP, h2, h3, h4, h5]; rfl
    have h6 : l.toNat = 129 ∨ l.toNat = 130 ∨ l.toNat = 131 := by omega
    rcases h6 with h6 | h6 | h6
    · obtain rfl : l = 129 := UInt8.toNat_inj.1 h6
      rcases r with _ | ⟨x, r⟩
      · simp at h5
      simp only [List.length_cons] at hb h5
      have hx : x.toNat < 256 := x.toNat_lt
      have hbe : be [x] = x.toNat := by simp [be]
      by_cases h7 : x.toNat < 128
      · have h7' : (x.toNat : Int) < 128 := by omega
        simp (disch := omega) only [wk0, wk1, wk2, wk3, wk4, wk5, wk6, wk7, wk8, List.length_map, List.getElem?_map, Bool.not_true, Bool.not_false, List.isEmpty_cons, List.isEmpty_nil, List.append_assoc, or_false, false_or, or_true, true_or, not_false_eq_true, List.flatten_cons, List.flatten_nil, Int.zero_mul, Int.reducePow, Nat.reducePow, back, backOne, giveBack, lentCells, noNew, noNew1, UInt8.reduceToNat, scrubSt, scrubId, scrub1, List.getD_eq_getElem?_getD, Option.getD_some, Option.getD_none, if_pos, if_neg, maxLen, List.length_drop, List.length_take, decide_eq_true, decide_eq_false, goes_loop, goesL_succ, reduceCtorEq, Int.toNat_zero, Int.toNat_one, and_self, true_and, and_true, Nat.le_refl, Int.toNat_natCast, Int.reduceToNat, Int.reduceLT, Int.reduceLE, Int.reduceEq, Int.reduceAdd, Int.reduceSub, Int.reduceMul, Int.reduceGT, Int.reduceGE, Int.reduceNe, Int.natCast_add, Int.natCast_one, Int.natCast_zero, Int.cast_ofNat_Int, ne_eq, not_true_eq_false, not_false_eq_true, gt_iff_lt, ge_iff_le, Option.join_some, Option.join_none, demCells, setCells, Nat.zero_add, Nat.add_zero, newBoxes, outFlat, PV.flat, flat1, outOne, PV.cells, store1, plain1, List.replicate_succ, List.replicate_zero, List.length_cons, List.length_nil, List.contains_nil, List.contains_cons, List.cons_append, List.nil_append, List.append_nil, List.set_cons_zero, List.set_cons_succ, List.getElem?_cons_zero, List.getElem?_cons_succ, List.getElem?_nil, Bool.false_eq_true, Bool.or_false, Bool.or_true, Bool.false_or, Bool.true_or, Bool.and_true, Bool.true_and, Bool.and_false, Bool.false_and, Bool.not_true, Bool.not_false, if_false, if_true, List.map_cons, List.map_nil, List.zip_cons_cons, List.zip_nil_right, List.flatMap_cons, List.flatMap_nil, Option.map_none, Option.map_some, Option.bind_some, Option.bind_none, Option.some.injEq, beq_self_eq_true, List.take_succ_cons, List.take_zero, List.drop_succ_cons, List.drop_zero, List.take_nil, List.drop_nil, List.all_cons, List.all_nil, Nat.reduceBEq, Nat.reduceAdd, Nat.reduceSub, Nat.reduceMul, Nat.reduceLT, Nat.reduceLeDiff, Nat.reduceEqDiff, decide_true, decide_false, List.size_toArray, List.getElem?_toArray, Option.isNone_some, ty0, ty1, ty2, ty3, ty4, ty5, ty6, ty7, ty8, mask38, cmask38, lm38, take38, wr38, carry38, fuel, func43, params43, least_w, least1]
        simp [read, h1, readP, hbe, least, h7']; rfl
      have h7' : ¬ (x.toNat : Int) < 128 := by omega
      have h8 : ¬ 131072 < x.toNat := by omega
      by_cases h9 : r.length < x.toNat
      · simp (disch := omega) only [wk0, wk1, wk2, wk3, wk4, wk5, wk6, wk7, wk8, List.length_map, List.getElem?_map, Bool.not_true, Bool.not_false, List.isEmpty_cons, List.isEmpty_nil, List.append_assoc, or_false, false_or, or_true, true_or, not_false_eq_true, List.flatten_cons, List.flatten_nil, Int.zero_mul, Int.reducePow, Nat.reducePow, back, backOne, giveBack, lentCells, noNew, noNew1, UInt8.reduceToNat, scrubSt, scrubId, scrub1, List.getD_eq_getElem?_getD, Option.getD_some, Option.getD_none, if_pos, if_neg, maxLen, List.length_drop, List.length_take, decide_eq_true, decide_eq_false, goes_loop, goesL_succ, reduceCtorEq, Int.toNat_zero, Int.toNat_one, and_self, true_and, and_true, Nat.le_refl, Int.toNat_natCast, Int.reduceToNat, Int.reduceLT, Int.reduceLE, Int.reduceEq, Int.reduceAdd, Int.reduceSub, Int.reduceMul, Int.reduceGT, Int.reduceGE, Int.reduceNe, Int.natCast_add, Int.natCast_one, Int.natCast_zero, Int.cast_ofNat_Int, ne_eq, not_true_eq_false, not_false_eq_true, gt_iff_lt, ge_iff_le, Option.join_some, Option.join_none, demCells, setCells, Nat.zero_add, Nat.add_zero, newBoxes, outFlat, PV.flat, flat1, outOne, PV.cells, store1, plain1, List.replicate_succ, List.replicate_zero, List.length_cons, List.length_nil, List.contains_nil, List.contains_cons, List.cons_append, List.nil_append, List.append_nil, List.set_cons_zero, List.set_cons_succ, List.getElem?_cons_zero, List.getElem?_cons_succ, List.getElem?_nil, Bool.false_eq_true, Bool.or_false, Bool.or_true, Bool.false_or, Bool.true_or, Bool.and_true, Bool.true_and, Bool.and_false, Bool.false_and, Bool.not_true, Bool.not_false, if_false, if_true, List.map_cons, List.map_nil, List.zip_cons_cons, List.zip_nil_right, List.flatMap_cons, List.flatMap_nil, Option.map_none, Option.map_some, Option.bind_some, Option.bind_none, Option.some.injEq, beq_self_eq_true, List.take_succ_cons, List.take_zero, List.drop_succ_cons, List.drop_zero, List.take_nil, List.drop_nil, List.all_cons, List.all_nil, Nat.reduceBEq, Nat.reduceAdd, Nat.reduceSub, Nat.reduceMul, Nat.reduceLT, Nat.reduceLeDiff, Nat.reduceEqDiff, decide_true, decide_false, List.size_toArray, List.getElem?_toArray, Option.isNone_some, ty0, ty1, ty2, ty3, ty4, ty5, ty6, ty7, ty8, mask38, cmask38, lm38, take38, wr38, carry38, fuel, func43, params43, least_w, least1]
        simp [read, h1, readP, hbe, least, h7', h8, readAt, h9]; rfl
      simp (disch := omega) only [wk0, wk1, wk2, wk3, wk4, wk5, wk6, wk7, wk8, List.length_map, List.getElem?_map, Bool.not_true, Bool.not_false, List.isEmpty_cons, List.isEmpty_nil, List.append_assoc, or_false, false_or, or_true, true_or, not_false_eq_true, List.flatten_cons, List.flatten_nil, Int.zero_mul, Int.reducePow, Nat.reducePow, back, backOne, giveBack, lentCells, noNew, noNew1, UInt8.reduceToNat, scrubSt, scrubId, scrub1, List.getD_eq_getElem?_getD, Option.getD_some, Option.getD_none, if_pos, if_neg, maxLen, List.length_drop, List.length_take, decide_eq_true, decide_eq_false, goes_loop, goesL_succ, reduceCtorEq, Int.toNat_zero, Int.toNat_one, and_self, true_and, and_true, Nat.le_refl, Int.toNat_natCast, Int.reduceToNat, Int.reduceLT, Int.reduceLE, Int.reduceEq, Int.reduceAdd, Int.reduceSub, Int.reduceMul, Int.reduceGT, Int.reduceGE, Int.reduceNe, Int.natCast_add, Int.natCast_one, Int.natCast_zero, Int.cast_ofNat_Int, ne_eq, not_true_eq_false, not_false_eq_true, gt_iff_lt, ge_iff_le, Option.join_some, Option.join_none, demCells, setCells, Nat.zero_add, Nat.add_zero, newBoxes, outFlat, PV.flat, flat1, outOne, PV.cells, store1, plain1, List.replicate_succ, List.replicate_zero, List.length_cons, List.length_nil, List.contains_nil, List.contains_cons, List.cons_append, List.nil_append, List.append_nil, List.set_cons_zero, List.set_cons_succ, List.getElem?_cons_zero, List.getElem?_cons_succ, List.getElem?_nil, Bool.false_eq_true, Bool.or_false, Bool.or_true, Bool.false_or, Bool.true_or, Bool.and_true, Bool.true_and, Bool.and_false, Bool.false_and, Bool.not_true, Bool.not_false, if_false, if_true, List.map_cons, List.map_nil, List.zip_cons_cons, List.zip_nil_right, List.flatMap_cons, List.flatMap_nil, Option.map_none, Option.map_some, Option.bind_some, Option.bind_none, Option.some.injEq, beq_self_eq_true, List.take_succ_cons, List.take_zero, List.drop_succ_cons, List.drop_zero, List.take_nil, List.drop_nil, List.all_cons, List.all_nil, Nat.reduceBEq, Nat.reduceAdd, Nat.reduceSub, Nat.reduceMul, Nat.reduceLT, Nat.reduceLeDiff, Nat.reduceEqDiff, decide_true, decide_false, List.size_toArray, List.getElem?_toArray, Option.isNone_some, ty0, ty1, ty2, ty3, ty4, ty5, ty6, ty7, ty8, mask38, cmask38, lm38, take38, wr38, carry38, fuel, func43, params43, least_w, least1]
      rw [goOps_nil_draw]
      rotate_left
      · simp only [drawOk, wk0, wk1, wk2, wk3, wk4, wk5, wk6, wk7, wk8, List.length_map, List.getElem?_map, Bool.not_true, Bool.not_false, List.isEmpty_cons, List.isEmpty_nil, List.append_assoc, or_false, false_or, or_true, true_or, not_false_eq_true, List.flatten_cons, List.flatten_nil, Int.zero_mul, Int.reducePow, Nat.reducePow, back, backOne, giveBack, lentCells, noNew, noNew1, UInt8.reduceToNat, scrubSt, scrubId, scrub1, List.getD_eq_getElem?_getD, Option.getD_some, Option.getD_none, if_pos, if_neg, maxLen, List.length_drop, List.length_take, decide_eq_true, decide_eq_false, goes_loop, goesL_succ, reduceCtorEq, Int.toNat_zero, Int.toNat_one, and_self, true_and, and_true, Nat.le_refl, Int.toNat_natCast, Int.reduceToNat, Int.reduceLT, Int.reduceLE, Int.reduceEq, Int.reduceAdd, Int.reduceSub, Int.reduceMul, Int.reduceGT, Int.reduceGE, Int.reduceNe, Int.natCast_add, Int.natCast_one, Int.natCast_zero, Int.cast_ofNat_Int, ne_eq, not_true_eq_false, not_false_eq_true, gt_iff_lt, ge_iff_le, Option.join_some, Option.join_none, demCells, setCells, Nat.zero_add, Nat.add_zero, newBoxes, outFlat, PV.flat, flat1, outOne, PV.cells, store1, plain1, List.replicate_succ, List.replicate_zero, List.length_cons, List.length_nil, List.contains_nil, List.contains_cons, List.cons_append, List.nil_append, List.append_nil, List.set_cons_zero, List.set_cons_succ, List.getElem?_cons_zero, List.getElem?_cons_succ, List.getElem?_nil, Bool.false_eq_true, Bool.or_false, Bool.or_true, Bool.false_or, Bool.true_or, Bool.and_true, Bool.true_and, Bool.and_false, Bool.false_and, Bool.not_true, Bool.not_false, if_false, if_true, List.map_cons, List.map_nil, List.zip_cons_cons, List.zip_nil_right, List.flatMap_cons, List.flatMap_nil, Option.map_none, Option.map_some, Option.bind_some, Option.bind_none, Option.some.injEq, beq_self_eq_true, List.take_succ_cons, List.take_zero, List.drop_succ_cons, List.drop_zero, List.take_nil, List.drop_nil, List.all_cons, List.all_nil, Nat.reduceBEq, Nat.reduceAdd, Nat.reduceSub, Nat.reduceMul, Nat.reduceLT, Nat.reduceLeDiff, Nat.reduceEqDiff, decide_true, decide_false, List.size_toArray, List.getElem?_toArray, Option.isNone_some]
        kernel_rfl
      simp (disch := omega) only [wk0, wk1, wk2, wk3, wk4, wk5, wk6, wk7, wk8, List.length_map, List.getElem?_map, Bool.not_true, Bool.not_false, List.isEmpty_cons, List.isEmpty_nil, List.append_assoc, or_false, false_or, or_true, true_or, not_false_eq_true, List.flatten_cons, List.flatten_nil, Int.zero_mul, Int.reducePow, Nat.reducePow, back, backOne, giveBack, lentCells, noNew, noNew1, UInt8.reduceToNat, scrubSt, scrubId, scrub1, List.getD_eq_getElem?_getD, Option.getD_some, Option.getD_none, if_pos, if_neg, maxLen, List.length_drop, List.length_take, decide_eq_true, decide_eq_false, goes_loop, goesL_succ, reduceCtorEq, Int.toNat_zero, Int.toNat_one, and_self, true_and, and_true, Nat.le_refl, Int.toNat_natCast, Int.reduceToNat, Int.reduceLT, Int.reduceLE, Int.reduceEq, Int.reduceAdd, Int.reduceSub, Int.reduceMul, Int.reduceGT, Int.reduceGE, Int.reduceNe, Int.natCast_add, Int.natCast_one, Int.natCast_zero, Int.cast_ofNat_Int, ne_eq, not_true_eq_false, not_false_eq_true, gt_iff_lt, ge_iff_le, Option.join_some, Option.join_none, demCells, setCells, Nat.zero_add, Nat.add_zero, newBoxes, outFlat, PV.flat, flat1, outOne, PV.cells, store1, plain1, List.replicate_succ, List.replicate_zero, List.length_cons, List.length_nil, List.contains_nil, List.contains_cons, List.cons_append, List.nil_append, List.append_nil, List.set_cons_zero, List.set_cons_succ, List.getElem?_cons_zero, List.getElem?_cons_succ, List.getElem?_nil, Bool.false_eq_true, Bool.or_false, Bool.or_true, Bool.false_or, Bool.true_or, Bool.and_true, Bool.true_and, Bool.and_false, Bool.false_and, Bool.not_true, Bool.not_false, if_false, if_true, List.map_cons, List.map_nil, List.zip_cons_cons, List.zip_nil_right, List.flatMap_cons, List.flatMap_nil, Option.map_none, Option.map_some, Option.bind_some, Option.bind_none, Option.some.injEq, beq_self_eq_true, List.take_succ_cons, List.take_zero, List.drop_succ_cons, List.drop_zero, List.take_nil, List.drop_nil, List.all_cons, List.all_nil, Nat.reduceBEq, Nat.reduceAdd, Nat.reduceSub, Nat.reduceMul, Nat.reduceLT, Nat.reduceLeDiff, Nat.reduceEqDiff, decide_true, decide_false, List.size_toArray, List.getElem?_toArray, Option.isNone_some, ty0, ty1, ty2, ty3, ty4, ty5, ty6, ty7, ty8, mask38, cmask38, lm38, take38, wr38, carry38, fuel]
      have e1 : ((3 : Int) + (x.toNat : Int)).toNat = 3 + x.toNat := by omega
      simp [read, h1, readP, hbe, least, h7', h8, readAt, h9, elemP, e1]
    · obtain rfl : l = 130 := UInt8.toNat_inj.1 h6
      rcases r with _ | ⟨x, _ | ⟨y, r⟩⟩
      · simp at h5
      · simp at h5
      simp only [List.length_cons] at hb h5
      have hx : x.toNat < 256 := x.toNat_lt
      have hy : y.toNat < 256 := y.toNat_lt
      have hbe : be [x, y] = x.toNat * 256 + y.toNat := by simp [be]; omega
      by_cases h7 : x.toNat * 256 + y.toNat < 256
      · have h7' : (x.toNat : Int) * 256 + (y.toNat : Int) < 256 := by omega
        simp (disch := omega) only [wk0, wk1, wk2, wk3, wk4, wk5, wk6, wk7, wk8, List.length_map, List.getElem?_map, Bool.not_true, Bool.not_false, List.isEmpty_cons, List.isEmpty_nil, List.append_assoc, or_false, false_or, or_true, true_or, not_false_eq_true, List.flatten_cons, List.flatten_nil, Int.zero_mul, Int.reducePow, Nat.reducePow, back, backOne, giveBack, lentCells, noNew, noNew1, UInt8.reduceToNat, scrubSt, scrubId, scrub1, List.getD_eq_getElem?_getD, Option.getD_some, Option.getD_none, if_pos, if_neg, maxLen, List.length_drop, List.length_take, decide_eq_true, decide_eq_false, goes_loop, goesL_succ, reduceCtorEq, Int.toNat_zero, Int.toNat_one, and_self, true_and, and_true, Nat.le_refl, Int.toNat_natCast, Int.reduceToNat, Int.reduceLT, Int.reduceLE, Int.reduceEq, Int.reduceAdd, Int.reduceSub, Int.reduceMul, Int.reduceGT, Int.reduceGE, Int.reduceNe, Int.natCast_add, Int.natCast_one, Int.natCast_zero, Int.cast_ofNat_Int, ne_eq, not_true_eq_false, not_false_eq_true, gt_iff_lt, ge_iff_le, Option.join_some, Option.join_none, demCells, setCells, Nat.zero_add, Nat.add_zero, newBoxes, outFlat, PV.flat, flat1, outOne, PV.cells, store1, plain1, List.replicate_succ, List.replicate_zero, List.length_cons, List.length_nil, List.contains_nil, List.contains_cons, List.cons_append, List.nil_append, List.append_nil, List.set_cons_zero, List.set_cons_succ, List.getElem?_cons_zero, List.getElem?_cons_succ, List.getElem?_nil, Bool.false_eq_true, Bool.or_false, Bool.or_true, Bool.false_or, Bool.true_or, Bool.and_true, Bool.true_and, Bool.and_false, Bool.false_and, Bool.not_true, Bool.not_false, if_false, if_true, List.map_cons, List.map_nil, List.zip_cons_cons, List.zip_nil_right, List.flatMap_cons, List.flatMap_nil, Option.map_none, Option.map_some, Option.bind_some, Option.bind_none, Option.some.injEq, beq_self_eq_true, List.take_succ_cons, List.take_zero, List.drop_succ_cons, List.drop_zero, List.take_nil, List.drop_nil, List.all_cons, List.all_nil, Nat.reduceBEq, Nat.reduceAdd, Nat.reduceSub, Nat.reduceMul, Nat.reduceLT, Nat.reduceLeDiff, Nat.reduceEqDiff, decide_true, decide_false, List.size_toArray, List.getElem?_toArray, Option.isNone_some, ty0, ty1, ty2, ty3, ty4, ty5, ty6, ty7, ty8, mask38, cmask38, lm38, take38, wr38, carry38, fuel, func43, params43, least_w, least2]
        simp [read, h1, readP, hbe, least, h7']; rfl
      have h7' : ¬ (x.toNat : Int) * 256 + (y.toNat : Int) < 256 := by omega
      have h8 : ¬ 131072 < x.toNat * 256 + y.toNat := by omega
      by_cases h9 : r.length < x.toNat * 256 + y.toNat
      · simp (disch := omega) only [wk0, wk1, wk2, wk3, wk4, wk5, wk6, wk7, wk8, List.length_map, List.getElem?_map, Bool.not_true, Bool.not_false, List.isEmpty_cons, List.isEmpty_nil, List.append_assoc, or_false, false_or, or_true, true_or, not_false_eq_true, List.flatten_cons, List.flatten_nil, Int.zero_mul, Int.reducePow, Nat.reducePow, back, backOne, giveBack, lentCells, noNew, noNew1, UInt8.reduceToNat, scrubSt, scrubId, scrub1, List.getD_eq_getElem?_getD, Option.getD_some, Option.getD_none, if_pos, if_neg, maxLen, List.length_drop, List.length_take, decide_eq_true, decide_eq_false, goes_loop, goesL_succ, reduceCtorEq, Int.toNat_zero, Int.toNat_one, and_self, true_and, and_true, Nat.le_refl, Int.toNat_natCast, Int.reduceToNat, Int.reduceLT, Int.reduceLE, Int.reduceEq, Int.reduceAdd, Int.reduceSub, Int.reduceMul, Int.reduceGT, Int.reduceGE, Int.reduceNe, Int.natCast_add, Int.natCast_one, Int.natCast_zero, Int.cast_ofNat_Int, ne_eq, not_true_eq_false, not_false_eq_true, gt_iff_lt, ge_iff_le, Option.join_some, Option.join_none, demCells, setCells, Nat.zero_add, Nat.add_zero, newBoxes, outFlat, PV.flat, flat1, outOne, PV.cells, store1, plain1, List.replicate_succ, List.replicate_zero, List.length_cons, List.length_nil, List.contains_nil, List.contains_cons, List.cons_append, List.nil_append, List.append_nil, List.set_cons_zero, List.set_cons_succ, List.getElem?_cons_zero, List.getElem?_cons_succ, List.getElem?_nil, Bool.false_eq_true, Bool.or_false, Bool.or_true, Bool.false_or, Bool.true_or, Bool.and_true, Bool.true_and, Bool.and_false, Bool.false_and, Bool.not_true, Bool.not_false, if_false, if_true, List.map_cons, List.map_nil, List.zip_cons_cons, List.zip_nil_right, List.flatMap_cons, List.flatMap_nil, Option.map_none, Option.map_some, Option.bind_some, Option.bind_none, Option.some.injEq, beq_self_eq_true, List.take_succ_cons, List.take_zero, List.drop_succ_cons, List.drop_zero, List.take_nil, List.drop_nil, List.all_cons, List.all_nil, Nat.reduceBEq, Nat.reduceAdd, Nat.reduceSub, Nat.reduceMul, Nat.reduceLT, Nat.reduceLeDiff, Nat.reduceEqDiff, decide_true, decide_false, List.size_toArray, List.getElem?_toArray, Option.isNone_some, ty0, ty1, ty2, ty3, ty4, ty5, ty6, ty7, ty8, mask38, cmask38, lm38, take38, wr38, carry38, fuel, func43, params43, least_w, least2]
        simp [read, h1, readP, hbe, least, h7', h8, readAt, h9]; rfl
      simp (disch := omega) only [wk0, wk1, wk2, wk3, wk4, wk5, wk6, wk7, wk8, List.length_map, List.getElem?_map, Bool.not_true, Bool.not_false, List.isEmpty_cons, List.isEmpty_nil, List.append_assoc, or_false, false_or, or_true, true_or, not_false_eq_true, List.flatten_cons, List.flatten_nil, Int.zero_mul, Int.reducePow, Nat.reducePow, back, backOne, giveBack, lentCells, noNew, noNew1, UInt8.reduceToNat, scrubSt, scrubId, scrub1, List.getD_eq_getElem?_getD, Option.getD_some, Option.getD_none, if_pos, if_neg, maxLen, List.length_drop, List.length_take, decide_eq_true, decide_eq_false, goes_loop, goesL_succ, reduceCtorEq, Int.toNat_zero, Int.toNat_one, and_self, true_and, and_true, Nat.le_refl, Int.toNat_natCast, Int.reduceToNat, Int.reduceLT, Int.reduceLE, Int.reduceEq, Int.reduceAdd, Int.reduceSub, Int.reduceMul, Int.reduceGT, Int.reduceGE, Int.reduceNe, Int.natCast_add, Int.natCast_one, Int.natCast_zero, Int.cast_ofNat_Int, ne_eq, not_true_eq_false, not_false_eq_true, gt_iff_lt, ge_iff_le, Option.join_some, Option.join_none, demCells, setCells, Nat.zero_add, Nat.add_zero, newBoxes, outFlat, PV.flat, flat1, outOne, PV.cells, store1, plain1, List.replicate_succ, List.replicate_zero, List.length_cons, List.length_nil, List.contains_nil, List.contains_cons, List.cons_append, List.nil_append, List.append_nil, List.set_cons_zero, List.set_cons_succ, List.getElem?_cons_zero, List.getElem?_cons_succ, List.getElem?_nil, Bool.false_eq_true, Bool.or_false, Bool.or_true, Bool.false_or, Bool.true_or, Bool.and_true, Bool.true_and, Bool.and_false, Bool.false_and, Bool.not_true, Bool.not_false, if_false, if_true, List.map_cons, List.map_nil, List.zip_cons_cons, List.zip_nil_right, List.flatMap_cons, List.flatMap_nil, Option.map_none, Option.map_some, Option.bind_some, Option.bind_none, Option.some.injEq, beq_self_eq_true, List.take_succ_cons, List.take_zero, List.drop_succ_cons, List.drop_zero, List.take_nil, List.drop_nil, List.all_cons, List.all_nil, Nat.reduceBEq, Nat.reduceAdd, Nat.reduceSub, Nat.reduceMul, Nat.reduceLT, Nat.reduceLeDiff, Nat.reduceEqDiff, decide_true, decide_false, List.size_toArray, List.getElem?_toArray, Option.isNone_some, ty0, ty1, ty2, ty3, ty4, ty5, ty6, ty7, ty8, mask38, cmask38, lm38, take38, wr38, carry38, fuel, func43, params43, least_w, least2]
      rw [goOps_nil_draw]
      rotate_left
      · simp only [drawOk, wk0, wk1, wk2, wk3, wk4, wk5, wk6, wk7, wk8, List.length_map, List.getElem?_map, Bool.not_true, Bool.not_false, List.isEmpty_cons, List.isEmpty_nil, List.append_assoc, or_false, false_or, or_true, true_or, not_false_eq_true, List.flatten_cons, List.flatten_nil, Int.zero_mul, Int.reducePow, Nat.reducePow, back, backOne, giveBack, lentCells, noNew, noNew1, UInt8.reduceToNat, scrubSt, scrubId, scrub1, List.getD_eq_getElem?_getD, Option.getD_some, Option.getD_none, if_pos, if_neg, maxLen, List.length_drop, List.length_take, decide_eq_true, decide_eq_false, goes_loop, goesL_succ, reduceCtorEq, Int.toNat_zero, Int.toNat_one, and_self, true_and, and_true, Nat.le_refl, Int.toNat_natCast, Int.reduceToNat, Int.reduceLT, Int.reduceLE, Int.reduceEq, Int.reduceAdd, Int.reduceSub, Int.reduceMul, Int.reduceGT, Int.reduceGE, Int.reduceNe, Int.natCast_add, Int.natCast_one, Int.natCast_zero, Int.cast_ofNat_Int, ne_eq, not_true_eq_false, not_false_eq_true, gt_iff_lt, ge_iff_le, Option.join_some, Option.join_none, demCells, setCells, Nat.zero_add, Nat.add_zero, newBoxes, outFlat, PV.flat, flat1, outOne, PV.cells, store1, plain1, List.replicate_succ, List.replicate_zero, List.length_cons, List.length_nil, List.contains_nil, List.contains_cons, List.cons_append, List.nil_append, List.append_nil, List.set_cons_zero, List.set_cons_succ, List.getElem?_cons_zero, List.getElem?_cons_succ, List.getElem?_nil, Bool.false_eq_true, Bool.or_false, Bool.or_true, Bool.false_or, Bool.true_or, Bool.and_true, Bool.true_and, Bool.and_false, Bool.false_and, Bool.not_true, Bool.not_false, if_false, if_true, List.map_cons, List.map_nil, List.zip_cons_cons, List.zip_nil_right, List.flatMap_cons, List.flatMap_nil, Option.map_none, Option.map_some, Option.bind_some, Option.bind_none, Option.some.injEq, beq_self_eq_true, List.take_succ_cons, List.take_zero, List.drop_succ_cons, List.drop_zero, List.take_nil, List.drop_nil, List.all_cons, List.all_nil, Nat.reduceBEq, Nat.reduceAdd, Nat.reduceSub, Nat.reduceMul, Nat.reduceLT, Nat.reduceLeDiff, Nat.reduceEqDiff, decide_true, decide_false, List.size_toArray, List.getElem?_toArray, Option.isNone_some]
        kernel_rfl
      simp (disch := omega) only [wk0, wk1, wk2, wk3, wk4, wk5, wk6, wk7, wk8, List.length_map, List.getElem?_map, Bool.not_true, Bool.not_false, List.isEmpty_cons, List.isEmpty_nil, List.append_assoc, or_false, false_or, or_true, true_or, not_false_eq_true, List.flatten_cons, List.flatten_nil, Int.zero_mul, Int.reducePow, Nat.reducePow, back, backOne, giveBack, lentCells, noNew, noNew1, UInt8.reduceToNat, scrubSt, scrubId, scrub1, List.getD_eq_getElem?_getD, Option.getD_some, Option.getD_none, if_pos, if_neg, maxLen, List.length_drop, List.length_take, decide_eq_true, decide_eq_false, goes_loop, goesL_succ, reduceCtorEq, Int.toNat_zero, Int.toNat_one, and_self, true_and, and_true, Nat.le_refl, Int.toNat_natCast, Int.reduceToNat, Int.reduceLT, Int.reduceLE, Int.reduceEq, Int.reduceAdd, Int.reduceSub, Int.reduceMul, Int.reduceGT, Int.reduceGE, Int.reduceNe, Int.natCast_add, Int.natCast_one, Int.natCast_zero, Int.cast_ofNat_Int, ne_eq, not_true_eq_false, not_false_eq_true, gt_iff_lt, ge_iff_le, Option.join_some, Option.join_none, demCells, setCells, Nat.zero_add, Nat.add_zero, newBoxes, outFlat, PV.flat, flat1, outOne, PV.cells, store1, plain1, List.replicate_succ, List.replicate_zero, List.length_cons, List.length_nil, List.contains_nil, List.contains_cons, List.cons_append, List.nil_append, List.append_nil, List.set_cons_zero, List.set_cons_succ, List.getElem?_cons_zero, List.getElem?_cons_succ, List.getElem?_nil, Bool.false_eq_true, Bool.or_false, Bool.or_true, Bool.false_or, Bool.true_or, Bool.and_true, Bool.true_and, Bool.and_false, Bool.false_and, Bool.not_true, Bool.not_false, if_false, if_true, List.map_cons, List.map_nil, List.zip_cons_cons, List.zip_nil_right, List.flatMap_cons, List.flatMap_nil, Option.map_none, Option.map_some, Option.bind_some, Option.bind_none, Option.some.injEq, beq_self_eq_true, List.take_succ_cons, List.take_zero, List.drop_succ_cons, List.drop_zero, List.take_nil, List.drop_nil, List.all_cons, List.all_nil, Nat.reduceBEq, Nat.reduceAdd, Nat.reduceSub, Nat.reduceMul, Nat.reduceLT, Nat.reduceLeDiff, Nat.reduceEqDiff, decide_true, decide_false, List.size_toArray, List.getElem?_toArray, Option.isNone_some, ty0, ty1, ty2, ty3, ty4, ty5, ty6, ty7, ty8, mask38, cmask38, lm38, take38, wr38, carry38, fuel]
      have h10 : ¬ r.length + 1 + 1 < 2 := by omega
      have e1 : ((4 : Int) + ((x.toNat : Int) * 256 + (y.toNat : Int))).toNat = 4 + (x.toNat * 256 + y.toNat) := by omega
      simp [read, h1, readP, hbe, least, h7', h8, readAt, h9, elemP, e1, h10]
    · obtain rfl : l = 131 := UInt8.toNat_inj.1 h6
      rcases r with _ | ⟨x, _ | ⟨y, _ | ⟨z, r⟩⟩⟩
      · simp at h5
      · simp at h5
      · simp at h5
      simp only [List.length_cons] at hb h5
      have hx : x.toNat < 256 := x.toNat_lt
      have hy : y.toNat < 256 := y.toNat_lt
      have hz : z.toNat < 256 := z.toNat_lt
      have hbe : be [x, y, z] = (x.toNat * 256 + y.toNat) * 256 + z.toNat := by simp [be]; omega
      by_cases h7 : (x.toNat * 256 + y.toNat) * 256 + z.toNat < 65536
      · have h7' : ((x.toNat : Int) * 256 + (y.toNat : Int)) * 256 + (z.toNat : Int) < 65536 := by omega
        simp (disch := omega) only [wk0, wk1, wk2, wk3, wk4, wk5, wk6, wk7, wk8, List.length_map, List.getElem?_map, Bool.not_true, Bool.not_false, List.isEmpty_cons, List.isEmpty_nil, List.append_assoc, or_false, false_or, or_true, true_or, not_false_eq_true, List.flatten_cons, List.flatten_nil, Int.zero_mul, Int.reducePow, Nat.reducePow, back, backOne, giveBack, lentCells, noNew, noNew1, UInt8.reduceToNat, scrubSt, scrubId, scrub1, List.getD_eq_getElem?_getD, Option.getD_some, Option.getD_none, if_pos, if_neg, maxLen, List.length_drop, List.length_take, decide_eq_true, decide_eq_false, goes_loop, goesL_succ, reduceCtorEq, Int.toNat_zero, Int.toNat_one, and_self, true_and, and_true, Nat.le_refl, Int.toNat_natCast, Int.reduceToNat, Int.reduceLT, Int.reduceLE, Int.reduceEq, Int.reduceAdd, Int.reduceSub, Int.reduceMul, Int.reduceGT, Int.reduceGE, Int.reduceNe, Int.natCast_add, Int.natCast_one, Int.natCast_zero, Int.cast_ofNat_Int, ne_eq, not_true_eq_false, not_false_eq_true, gt_iff_lt, ge_iff_le, Option.join_some, Option.join_none, demCells, setCells, Nat.zero_add, Nat.add_zero, newBoxes, outFlat, PV.flat, flat1, outOne, PV.cells, store1, plain1, List.replicate_succ, List.replicate_zero, List.length_cons, List.length_nil, List.contains_nil, List.contains_cons, List.cons_append, List.nil_append, List.append_nil, List.set_cons_zero, List.set_cons_succ, List.getElem?_cons_zero, List.getElem?_cons_succ, List.getElem?_nil, Bool.false_eq_true, Bool.or_false, Bool.or_true, Bool.false_or, Bool.true_or, Bool.and_true, Bool.true_and, Bool.and_false, Bool.false_and, Bool.not_true, Bool.not_false, if_false, if_true, List.map_cons, List.map_nil, List.zip_cons_cons, List.zip_nil_right, List.flatMap_cons, List.flatMap_nil, Option.map_none, Option.map_some, Option.bind_some, Option.bind_none, Option.some.injEq, beq_self_eq_true, List.take_succ_cons, List.take_zero, List.drop_succ_cons, List.drop_zero, List.take_nil, List.drop_nil, List.all_cons, List.all_nil, Nat.reduceBEq, Nat.reduceAdd, Nat.reduceSub, Nat.reduceMul, Nat.reduceLT, Nat.reduceLeDiff, Nat.reduceEqDiff, decide_true, decide_false, List.size_toArray, List.getElem?_toArray, Option.isNone_some, ty0, ty1, ty2, ty3, ty4, ty5, ty6, ty7, ty8, mask38, cmask38, lm38, take38, wr38, carry38, fuel, func43, params43, least_w, least3]
        simp [read, h1, readP, hbe, least, h7']; rfl
      have h7' : ¬ ((x.toNat : Int) * 256 + (y.toNat : Int)) * 256 + (z.toNat : Int) < 65536 := by omega
      by_cases h8 : 131072 < (x.toNat * 256 + y.toNat) * 256 + z.toNat
      · simp (disch := omega) only [wk0, wk1, wk2, wk3, wk4, wk5, wk6, wk7, wk8, List.length_map, List.getElem?_map, Bool.not_true, Bool.not_false, List.isEmpty_cons, List.isEmpty_nil, List.append_assoc, or_false, false_or, or_true, true_or, not_false_eq_true, List.flatten_cons, List.flatten_nil, Int.zero_mul, Int.reducePow, Nat.reducePow, back, backOne, giveBack, lentCells, noNew, noNew1, UInt8.reduceToNat, scrubSt, scrubId, scrub1, List.getD_eq_getElem?_getD, Option.getD_some, Option.getD_none, if_pos, if_neg, maxLen, List.length_drop, List.length_take, decide_eq_true, decide_eq_false, goes_loop, goesL_succ, reduceCtorEq, Int.toNat_zero, Int.toNat_one, and_self, true_and, and_true, Nat.le_refl, Int.toNat_natCast, Int.reduceToNat, Int.reduceLT, Int.reduceLE, Int.reduceEq, Int.reduceAdd, Int.reduceSub, Int.reduceMul, Int.reduceGT, Int.reduceGE, Int.reduceNe, Int.natCast_add, Int.natCast_one, Int.natCast_zero, Int.cast_ofNat_Int, ne_eq, not_true_eq_false, not_false_eq_true, gt_iff_lt, ge_iff_le, Option.join_some, Option.join_none, demCells, setCells, Nat.zero_add, Nat.add_zero, newBoxes, outFlat, PV.flat, flat1, outOne, PV.cells, store1, plain1, List.replicate_succ, List.replicate_zero, List.length_cons, List.length_nil, List.contains_nil, List.contains_cons, List.cons_append, List.nil_append, List.append_nil, List.set_cons_zero, List.set_cons_succ, List.getElem?_cons_zero, List.getElem?_cons_succ, List.getElem?_nil, Bool.false_eq_true, Bool.or_false, Bool.or_true, Bool.false_or, Bool.true_or, Bool.and_true, Bool.true_and, Bool.and_false, Bool.false_and, Bool.not_true, Bool.not_false, if_false, if_true, List.map_cons, List.map_nil, List.zip_cons_cons, List.zip_nil_right, List.flatMap_cons, List.flatMap_nil, Option.map_none, Option.map_some, Option.bind_some, Option.bind_none, Option.some.injEq, beq_self_eq_true, List.take_succ_cons, List.take_zero, List.drop_succ_cons, List.drop_zero, List.take_nil, List.drop_nil, List.all_cons, List.all_nil, Nat.reduceBEq, Nat.reduceAdd, Nat.reduceSub, Nat.reduceMul, Nat.reduceLT, Nat.reduceLeDiff, Nat.reduceEqDiff, decide_true, decide_false, List.size_toArray, List.getElem?_toArray, Option.isNone_some, ty0, ty1, ty2, ty3, ty4, ty5, ty6, ty7, ty8, mask38, cmask38, lm38, take38, wr38, carry38, fuel, func43, params43, least_w, least3]
        simp [read, h1, readP, hbe, least, h7', h8]; rfl
      by_cases h9 : r.length < (x.toNat * 256 + y.toNat) * 256 + z.toNat
      · simp (disch := omega) only [wk0, wk1, wk2, wk3, wk4, wk5, wk6, wk7, wk8, List.length_map, List.getElem?_map, Bool.not_true, Bool.not_false, List.isEmpty_cons, List.isEmpty_nil, List.append_assoc, or_false, false_or, or_true, true_or, not_false_eq_true, List.flatten_cons, List.flatten_nil, Int.zero_mul, Int.reducePow, Nat.reducePow, back, backOne, giveBack, lentCells, noNew, noNew1, UInt8.reduceToNat, scrubSt, scrubId, scrub1, List.getD_eq_getElem?_getD, Option.getD_some, Option.getD_none, if_pos, if_neg, maxLen, List.length_drop, List.length_take, decide_eq_true, decide_eq_false, goes_loop, goesL_succ, reduceCtorEq, Int.toNat_zero, Int.toNat_one, and_self, true_and, and_true, Nat.le_refl, Int.toNat_natCast, Int.reduceToNat, Int.reduceLT, Int.reduceLE, Int.reduceEq, Int.reduceAdd, Int.reduceSub, Int.reduceMul, Int.reduceGT, Int.reduceGE, Int.reduceNe, Int.natCast_add, Int.natCast_one, Int.natCast_zero, Int.cast_ofNat_Int, ne_eq, not_true_eq_false, not_false_eq_true, gt_iff_lt, ge_iff_le, Option.join_some, Option.join_none, demCells, setCells, Nat.zero_add, Nat.add_zero, newBoxes, outFlat, PV.flat, flat1, outOne, PV.cells, store1, plain1, List.replicate_succ, List.replicate_zero, List.length_cons, List.length_nil, List.contains_nil, List.contains_cons, List.cons_append, List.nil_append, List.append_nil, List.set_cons_zero, List.set_cons_succ, List.getElem?_cons_zero, List.getElem?_cons_succ, List.getElem?_nil, Bool.false_eq_true, Bool.or_false, Bool.or_true, Bool.false_or, Bool.true_or, Bool.and_true, Bool.true_and, Bool.and_false, Bool.false_and, Bool.not_true, Bool.not_false, if_false, if_true, List.map_cons, List.map_nil, List.zip_cons_cons, List.zip_nil_right, List.flatMap_cons, List.flatMap_nil, Option.map_none, Option.map_some, Option.bind_some, Option.bind_none, Option.some.injEq, beq_self_eq_true, List.take_succ_cons, List.take_zero, List.drop_succ_cons, List.drop_zero, List.take_nil, List.drop_nil, List.all_cons, List.all_nil, Nat.reduceBEq, Nat.reduceAdd, Nat.reduceSub, Nat.reduceMul, Nat.reduceLT, Nat.reduceLeDiff, Nat.reduceEqDiff, decide_true, decide_false, List.size_toArray, List.getElem?_toArray, Option.isNone_some, ty0, ty1, ty2, ty3, ty4, ty5, ty6, ty7, ty8, mask38, cmask38, lm38, take38, wr38, carry38, fuel, func43, params43, least_w, least3]
        simp [read, h1, readP, hbe, least, h7', h8, readAt, h9]; rfl
      simp (disch := omega) only [wk0, wk1, wk2, wk3, wk4, wk5, wk6, wk7, wk8, List.length_map, List.getElem?_map, Bool.not_true, Bool.not_false, List.isEmpty_cons, List.isEmpty_nil, List.append_assoc, or_false, false_or, or_true, true_or, not_false_eq_true, List.flatten_cons, List.flatten_nil, Int.zero_mul, Int.reducePow, Nat.reducePow, back, backOne, giveBack, lentCells, noNew, noNew1, UInt8.reduceToNat, scrubSt, scrubId, scrub1, List.getD_eq_getElem?_getD, Option.getD_some, Option.getD_none, if_pos, if_neg, maxLen, List.length_drop, List.length_take, decide_eq_true, decide_eq_false, goes_loop, goesL_succ, reduceCtorEq, Int.toNat_zero, Int.toNat_one, and_self, true_and, and_true, Nat.le_refl, Int.toNat_natCast, Int.reduceToNat, Int.reduceLT, Int.reduceLE, Int.reduceEq, Int.reduceAdd, Int.reduceSub, Int.reduceMul, Int.reduceGT, Int.reduceGE, Int.reduceNe, Int.natCast_add, Int.natCast_one, Int.natCast_zero, Int.cast_ofNat_Int, ne_eq, not_true_eq_false, not_false_eq_true, gt_iff_lt, ge_iff_le, Option.join_some, Option.join_none, demCells, setCells, Nat.zero_add, Nat.add_zero, newBoxes, outFlat, PV.flat, flat1, outOne, PV.cells, store1, plain1, List.replicate_succ, List.replicate_zero, List.length_cons, List.length_nil, List.contains_nil, List.contains_cons, List.cons_append, List.nil_append, List.append_nil, List.set_cons_zero, List.set_cons_succ, List.getElem?_cons_zero, List.getElem?_cons_succ, List.getElem?_nil, Bool.false_eq_true, Bool.or_false, Bool.or_true, Bool.false_or, Bool.true_or, Bool.and_true, Bool.true_and, Bool.and_false, Bool.false_and, Bool.not_true, Bool.not_false, if_false, if_true, List.map_cons, List.map_nil, List.zip_cons_cons, List.zip_nil_right, List.flatMap_cons, List.flatMap_nil, Option.map_none, Option.map_some, Option.bind_some, Option.bind_none, Option.some.injEq, beq_self_eq_true, List.take_succ_cons, List.take_zero, List.drop_succ_cons, List.drop_zero, List.take_nil, List.drop_nil, List.all_cons, List.all_nil, Nat.reduceBEq, Nat.reduceAdd, Nat.reduceSub, Nat.reduceMul, Nat.reduceLT, Nat.reduceLeDiff, Nat.reduceEqDiff, decide_true, decide_false, List.size_toArray, List.getElem?_toArray, Option.isNone_some, ty0, ty1, ty2, ty3, ty4, ty5, ty6, ty7, ty8, mask38, cmask38, lm38, take38, wr38, carry38, fuel, func43, params43, least_w, least3]
      rw [goOps_nil_draw]
      rotate_left
      · simp only [drawOk, wk0, wk1, wk2, wk3, wk4, wk5, wk6, wk7, wk8, List.length_map, List.getElem?_map, Bool.not_true, Bool.not_false, List.isEmpty_cons, List.isEmpty_nil, List.append_assoc, or_false, false_or, or_true, true_or, not_false_eq_true, List.flatten_cons, List.flatten_nil, Int.zero_mul, Int.reducePow, Nat.reducePow, back, backOne, giveBack, lentCells, noNew, noNew1, UInt8.reduceToNat, scrubSt, scrubId, scrub1, List.getD_eq_getElem?_getD, Option.getD_some, Option.getD_none, if_pos, if_neg, maxLen, List.length_drop, List.length_take, decide_eq_true, decide_eq_false, goes_loop, goesL_succ, reduceCtorEq, Int.toNat_zero, Int.toNat_one, and_self, true_and, and_true, Nat.le_refl, Int.toNat_natCast, Int.reduceToNat, Int.reduceLT, Int.reduceLE, Int.reduceEq, Int.reduceAdd, Int.reduceSub, Int.reduceMul, Int.reduceGT, Int.reduceGE, Int.reduceNe, Int.natCast_add, Int.natCast_one, Int.natCast_zero, Int.cast_ofNat_Int, ne_eq, not_true_eq_false, not_false_eq_true, gt_iff_lt, ge_iff_le, Option.join_some, Option.join_none, demCells, setCells, Nat.zero_add, Nat.add_zero, newBoxes, outFlat, PV.flat, flat1, outOne, PV.cells, store1, plain1, List.replicate_succ, List.replicate_zero, List.length_cons, List.length_nil, List.contains_nil, List.contains_cons, List.cons_append, List.nil_append, List.append_nil, List.set_cons_zero, List.set_cons_succ, List.getElem?_cons_zero, List.getElem?_cons_succ, List.getElem?_nil, Bool.false_eq_true, Bool.or_false, Bool.or_true, Bool.false_or, Bool.true_or, Bool.and_true, Bool.true_and, Bool.and_false, Bool.false_and, Bool.not_true, Bool.not_false, if_false, if_true, List.map_cons, List.map_nil, List.zip_cons_cons, List.zip_nil_right, List.flatMap_cons, List.flatMap_nil, Option.map_none, Option.map_some, Option.bind_some, Option.bind_none, Option.some.injEq, beq_self_eq_true, List.take_succ_cons, List.take_zero, List.drop_succ_cons, List.drop_zero, List.take_nil, List.drop_nil, List.all_cons, List.all_nil, Nat.reduceBEq, Nat.reduceAdd, Nat.reduceSub, Nat.reduceMul, Nat.reduceLT, Nat.reduceLeDiff, Nat.reduceEqDiff, decide_true, decide_false, List.size_toArray, List.getElem?_toArray, Option.isNone_some]
        kernel_rfl
      simp (disch := omega) only [wk0, wk1, wk2, wk3, wk4, wk5, wk6, wk7, wk8, List.length_map, List.getElem?_map, Bool.not_true, Bool.not_false, List.isEmpty_cons, List.isEmpty_nil, List.append_assoc, or_false, false_or, or_true, true_or, not_false_eq_true, List.flatten_cons, List.flatten_nil, Int.zero_mul, Int.reducePow, Nat.reducePow, back, backOne, giveBack, lentCells, noNew, noNew1, UInt8.reduceToNat, scrubSt, scrubId, scrub1, List.getD_eq_getElem?_getD, Option.getD_some, Option.getD_none, if_pos, if_neg, maxLen, List.length_drop, List.length_take, decide_eq_true, decide_eq_false, goes_loop, goesL_succ, reduceCtorEq, Int.toNat_zero, Int.toNat_one, and_self, true_and, and_true, Nat.le_refl, Int.toNat_natCast, Int.reduceToNat, Int.reduceLT, Int.reduceLE, Int.reduceEq, Int.reduceAdd, Int.reduceSub, Int.reduceMul, Int.reduceGT, Int.reduceGE, Int.reduceNe, Int.natCast_add, Int.natCast_one, Int.natCast_zero, Int.cast_ofNat_Int, ne_eq, not_true_eq_false, not_false_eq_true, gt_iff_lt, ge_iff_le, Option.join_some, Option.join_none, demCells, setCells, Nat.zero_add, Nat.add_zero, newBoxes, outFlat, PV.flat, flat1, outOne, PV.cells, store1, plain1, List.replicate_succ, List.replicate_zero, List.length_cons, List.length_nil, List.contains_nil, List.contains_cons, List.cons_append, List.nil_append, List.append_nil, List.set_cons_zero, List.set_cons_succ, List.getElem?_cons_zero, List.getElem?_cons_succ, List.getElem?_nil, Bool.false_eq_true, Bool.or_false, Bool.or_true, Bool.false_or, Bool.true_or, Bool.and_true, Bool.true_and, Bool.and_false, Bool.false_and, Bool.not_true, Bool.not_false, if_false, if_true, List.map_cons, List.map_nil, List.zip_cons_cons, List.zip_nil_right, List.flatMap_cons, List.flatMap_nil, Option.map_none, Option.map_some, Option.bind_some, Option.bind_none, Option.some.injEq, beq_self_eq_true, List.take_succ_cons, List.take_zero, List.drop_succ_cons, List.drop_zero, List.take_nil, List.drop_nil, List.all_cons, List.all_nil, Nat.reduceBEq, Nat.reduceAdd, Nat.reduceSub, Nat.reduceMul, Nat.reduceLT, Nat.reduceLeDiff, Nat.reduceEqDiff, decide_true, decide_false, List.size_toArray, List.getElem?_toArray, Option.isNone_some, ty0, ty1, ty2, ty3, ty4, ty5, ty6, ty7, ty8, mask38, cmask38, lm38, take38, wr38, carry38, fuel]
      have h10 : ¬ r.length + 1 + 1 + 1 < 3 := by omega
      have e1 : ((5 : Int) + (((x.toNat : Int) * 256 + (y.toNat : Int)) * 256 + (z.toNat : Int))).toNat = 5 + ((x.toNat * 256 + y.toNat) * 256 + z.toNat) := by omega
      simp [read, h1, readP, hbe, least, h7', h8, readAt, h9, elemP, e1, h10]
end Go.Proofs.Try
namespace Go.Proofs.Try
open Go Go.Sim Go.Sim.PV

theorem readAt_bound {t k n : Nat} {b : List UInt8} {e : Elem} {r : List UInt8} (h : readAt t b k n = .ok (e, r)) : e.tag = t ∧ e.content.length = n ∧ b = e.raw ++ r ∧ k + n ≤ b.length ∨ b.length < k := by
  unfold readAt at h
  split at h
  · cases h
  · simp only [Except.ok.injEq, Prod.mk.injEq] at h
    obtain ⟨rfl, rfl⟩ := h
    by_cases hk : b.length < k
    · exact .inr hk
    · left
      simp only [List.length_drop, List.length_take, List.take_append_drop, true_and]
      refine ⟨by omega, by omega⟩

/-- What is known of an element that was read. -/
theorem read_bound {b : List UInt8} {e : Elem} {r : List UInt8} (h : read b = .ok (e, r)) : e.tag < 256 ∧ e.content.length + r.length + 2 ≤ b.length ∧ b = e.raw ++ r := by
  match b, h with
  | [], h => simp [read] at h
  | [t], h => simp [read] at h
  | t :: l :: rr, h =>
    have ht : t.toNat < 256 := t.toNat_lt
    simp only [read] at h
    split at h
    · cases h
    split at h
    · cases h
    split at h
    · rcases readAt_bound h with ⟨h1, h2, h3, h4⟩ | h1
      · have := congrArg List.length h3
        simp only [List.length_append, List.length_cons] at this h4 ⊢
        exact ⟨by omega, by unfold readAt at h; split at h <;> simp at h; obtain ⟨rfl, rfl⟩ := h; simp; omega, h3⟩
      · simp only [List.length_cons] at h1; omega
    split at h
    · cases h
    split at h
    · cases h
    rename_i h5 h6
    rcases readAt_bound h with ⟨h1, h2, h3, h4⟩ | h1
    · simp only [List.length_cons] at h4 ⊢
      exact ⟨by omega, by unfold readAt at h; split at h <;> simp at h; obtain ⟨rfl, rfl⟩ := h; simp; omega, h3⟩
    · simp only [List.length_cons] at h1; omega

/-- The element that b consists of. -/
def one (b : List UInt8) : Except Int Elem :=
  match read b with
  | .error x => .error x
  | .ok (e, r) => if r = [] then .ok e else .error 4

def oneP : Except Int Elem → PV
  | .error x => .tup [noElem, .int .i64 x]
  | .ok e => .tup [elemP e, .int .i64 0]

theorem read_err {b : List UInt8} {x : Int} (h : read b = .error x) : 1 ≤ x ∧ x ≤ 10 := by
  match b, h with
  | [], h => simp [read] at h; omega
  | [t], h => simp [read] at h; split at h <;> omega
  | t :: l :: r, h =>
    simp only [read] at h
    split at h
    · cases h; omega
    split at h
    · cases h; omega
    split at h
    · unfold readAt at h; split at h <;> cases h; omega
    split at h
    · cases h; omega
    split at h
    · cases h; omega
    · unfold readAt at h; split at h <;> cases h; omega

set_option maxHeartbeats 4000000 in
set_option maxRecDepth 10000 in
theorem one_w (n : Nat) (hn : 8 ≤ n) (b : List UInt8) (hb : b.length ≤ 9223372036854775807) : pcall prog X H n 33 [.str b] [] = some (oneP (one b), []) := by
  obtain ⟨n, rfl⟩ : ∃ m, n = m + 1 := ⟨n - 1, by omega⟩
  rw [pcall_body rfl func33 rfl ntmps33 res33]
  cases hr : read b with
  | error x =>
    have hx := read_err hr
    simp (disch := omega) only [wk0, wk1, wk2, wk3, wk4, wk5, wk6, wk7, wk8, List.length_map, List.getElem?_map, Bool.not_true, Bool.not_false, List.isEmpty_cons, List.isEmpty_nil, List.append_assoc, or_false, false_or, or_true, true_or, not_false_eq_true, List.flatten_cons, List.flatten_nil, Int.zero_mul, Int.reducePow, Nat.reducePow, back, backOne, giveBack, lentCells, noNew, noNew1, UInt8.reduceToNat, scrubSt, scrubId, scrub1, List.getD_eq_getElem?_getD, Option.getD_some, Option.getD_none, if_pos, if_neg, maxLen, List.length_drop, List.length_take, decide_eq_true, decide_eq_false, goes_loop, goesL_succ, reduceCtorEq, Int.toNat_zero, Int.toNat_one, and_self, true_and, and_true, Nat.le_refl, Int.toNat_natCast, Int.reduceToNat, Int.reduceLT, Int.reduceLE, Int.reduceEq, Int.reduceAdd, Int.reduceSub, Int.reduceMul, Int.reduceGT, Int.reduceGE, Int.reduceNe, Int.natCast_add, Int.natCast_one, Int.natCast_zero, Int.cast_ofNat_Int, ne_eq, not_true_eq_false, not_false_eq_true, gt_iff_lt, ge_iff_le, Option.join_some, Option.join_none, demCells, setCells, Nat.zero_add, Nat.add_zero, newBoxes, outFlat, PV.flat, flat1, outOne, PV.cells, store1, plain1, List.replicate_succ, List.replicate_zero, List.length_cons, List.length_nil, List.contains_nil, List.contains_cons, List.cons_append, List.nil_append, List.append_nil, List.set_cons_zero, List.set_cons_succ, List.getElem?_cons_zero, List.getElem?_cons_succ, List.getElem?_nil, Bool.false_eq_true, Bool.or_false, Bool.or_true, Bool.false_or, Bool.true_or, Bool.and_true, Bool.true_and, Bool.and_false, Bool.false_and, Bool.not_true, Bool.not_false, if_false, if_true, List.map_cons, List.map_nil, List.zip_cons_cons, List.zip_nil_right, List.flatMap_cons, List.flatMap_nil, Option.map_none, Option.map_some, Option.bind_some, Option.bind_none, Option.some.injEq, beq_self_eq_true, List.take_succ_cons, List.take_zero, List.drop_succ_cons, List.drop_zero, List.take_nil, List.drop_nil, List.all_cons, List.all_nil, Nat.reduceBEq, Nat.reduceAdd, Nat.reduceSub, Nat.reduceMul, Nat.reduceLT, Nat.reduceLeDiff, Nat.reduceEqDiff, decide_true, decide_false, List.size_toArray, List.getElem?_toArray, Option.isNone_some, ty0, ty1, ty2, ty3, ty4, ty5, ty6, ty7, ty8, mask33, cmask33, lm33, take33, wr33, carry33, func38, params38, read_w, hr, readP, noElem]
    simp [one, hr, oneP, noElem]
  | ok p =>
    obtain ⟨e, r⟩ := p
    by_cases h1 : r = []
    · subst h1
      simp (disch := omega) only [wk0, wk1, wk2, wk3, wk4, wk5, wk6, wk7, wk8, List.length_map, List.getElem?_map, Bool.not_true, Bool.not_false, List.isEmpty_cons, List.isEmpty_nil, List.append_assoc, or_false, false_or, or_true, true_or, not_false_eq_true, List.flatten_cons, List.flatten_nil, Int.zero_mul, Int.reducePow, Nat.reducePow, back, backOne, giveBack, lentCells, noNew, noNew1, UInt8.reduceToNat, scrubSt, scrubId, scrub1, List.getD_eq_getElem?_getD, Option.getD_some, Option.getD_none, if_pos, if_neg, maxLen, List.length_drop, List.length_take, decide_eq_true, decide_eq_false, goes_loop, goesL_succ, reduceCtorEq, Int.toNat_zero, Int.toNat_one, and_self, true_and, and_true, Nat.le_refl, Int.toNat_natCast, Int.reduceToNat, Int.reduceLT, Int.reduceLE, Int.reduceEq, Int.reduceAdd, Int.reduceSub, Int.reduceMul, Int.reduceGT, Int.reduceGE, Int.reduceNe, Int.natCast_add, Int.natCast_one, Int.natCast_zero, Int.cast_ofNat_Int, ne_eq, not_true_eq_false, not_false_eq_true, gt_iff_lt, ge_iff_le, Option.join_some, Option.join_none, demCells, setCells, Nat.zero_add, Nat.add_zero, newBoxes, outFlat, PV.flat, flat1, outOne, PV.cells, store1, plain1, List.replicate_succ, List.replicate_zero, List.length_cons, List.length_nil, List.contains_nil, List.contains_cons, List.cons_append, List.nil_append, List.append_nil, List.set_cons_zero, List.set_cons_succ, List.getElem?_cons_zero, List.getElem?_cons_succ, List.getElem?_nil, Bool.false_eq_true, Bool.or_false, Bool.or_true, Bool.false_or, Bool.true_or, Bool.and_true, Bool.true_and, Bool.and_false, Bool.false_and, Bool.not_true, Bool.not_false, if_false, if_true, List.map_cons, List.map_nil, List.zip_cons_cons, List.zip_nil_right, List.flatMap_cons, List.flatMap_nil, Option.map_none, Option.map_some, Option.bind_some, Option.bind_none, Option.some.injEq, beq_self_eq_true, List.take_succ_cons, List.take_zero, List.drop_succ_cons, List.drop_zero, List.take_nil, List.drop_nil, List.all_cons, List.all_nil, Nat.reduceBEq, Nat.reduceAdd, Nat.reduceSub, Nat.reduceMul, Nat.reduceLT, Nat.reduceLeDiff, Nat.reduceEqDiff, decide_true, decide_false, List.size_toArray, List.getElem?_toArray, Option.isNone_some, ty0, ty1, ty2, ty3, ty4, ty5, ty6, ty7, ty8, mask33, cmask33, lm33, take33, wr33, carry33, func38, params38, read_w, hr, readP, elemP]
      simp [one, hr, oneP, elemP]
    · simp (disch := omega) only [wk0, wk1, wk2, wk3, wk4, wk5, wk6, wk7, wk8, List.length_map, List.getElem?_map, Bool.not_true, Bool.not_false, List.isEmpty_cons, List.isEmpty_nil, List.append_assoc, or_false, false_or, or_true, true_or, not_false_eq_true, List.flatten_cons, List.flatten_nil, Int.zero_mul, Int.reducePow, Nat.reducePow, back, backOne, giveBack, lentCells, noNew, noNew1, UInt8.reduceToNat, scrubSt, scrubId, scrub1, List.getD_eq_getElem?_getD, Option.getD_some, Option.getD_none, if_pos, if_neg, maxLen, List.length_drop, List.length_take, decide_eq_true, decide_eq_false, goes_loop, goesL_succ, reduceCtorEq, Int.toNat_zero, Int.toNat_one, and_self, true_and, and_true, Nat.le_refl, Int.toNat_natCast, Int.reduceToNat, Int.reduceLT, Int.reduceLE, Int.reduceEq, Int.reduceAdd, Int.reduceSub, Int.reduceMul, Int.reduceGT, Int.reduceGE, Int.reduceNe, Int.natCast_add, Int.natCast_one, Int.natCast_zero, Int.cast_ofNat_Int, ne_eq, not_true_eq_false, not_false_eq_true, gt_iff_lt, ge_iff_le, Option.join_some, Option.join_none, demCells, setCells, Nat.zero_add, Nat.add_zero, newBoxes, outFlat, PV.flat, flat1, outOne, PV.cells, store1, plain1, List.replicate_succ, List.replicate_zero, List.length_cons, List.length_nil, List.contains_nil, List.contains_cons, List.cons_append, List.nil_append, List.append_nil, List.set_cons_zero, List.set_cons_succ, List.getElem?_cons_zero, List.getElem?_cons_succ, List.getElem?_nil, Bool.false_eq_true, Bool.or_false, Bool.or_true, Bool.false_or, Bool.true_or, Bool.and_true, Bool.true_and, Bool.and_false, Bool.false_and, Bool.not_true, Bool.not_false, if_false, if_true, List.map_cons, List.map_nil, List.zip_cons_cons, List.zip_nil_right, List.flatMap_cons, List.flatMap_nil, Option.map_none, Option.map_some, Option.bind_some, Option.bind_none, Option.some.injEq, beq_self_eq_true, List.take_succ_cons, List.take_zero, List.drop_succ_cons, List.drop_zero, List.take_nil, List.drop_nil, List.all_cons, List.all_nil, Nat.reduceBEq, Nat.reduceAdd, Nat.reduceSub, Nat.reduceMul, Nat.reduceLT, Nat.reduceLeDiff, Nat.reduceEqDiff, decide_true, decide_false, List.size_toArray, List.getElem?_toArray, Option.isNone_some, ty0, ty1, ty2, ty3, ty4, ty5, ty6, ty7, ty8, mask33, cmask33, lm33, take33, wr33, carry33, func38, params38, read_w, hr, readP, elemP, h1]
      simp [one, hr, oneP, h1, noElem]

end Go.Proofs.Try
