/-
  Walk of the drive's Do: all of it.
-/
import Derived.Test.YtojceddgmmapdaaD7X
import Derived.Test.YtojceddgmmapdaaD7E
import Derived.Test.YtojceddgmmapdaaD7F
import Derived.Test.YtojceddgmmapdaaD7G
import Derived.Test.YtojceddgmmapdaaD7R
import Derived.Test.YtojceddgmmapdaaD7V
import Derived.Test.YtojceddgmmapdaaD7W
import Derived.Deep.RegionLaw
namespace Go.Proofs.Ytojceddgmmapdaa
open Go.RowKit

theorem ddo_any (bd bm bz bb bl : Nat) (d : Dv) (vs : List Value) (k z a n : Int) (s : ByteArray) (w : World) (hI : IsD w bd bm bz bb bl d vs) (hok : d.ok) (hs : s.size ≤ 9223372036854775807) :
    Calls Try.prog 28 #[.pointer (some ⟨bd, 0, none⟩), .agg #[.int .i64 k, .int .i64 z, .int .i64 a, .int .i64 n], .string s] w (DPost bd bm bz bb bl vs (ddoF d k z a n s) w) := by
  cases hd : d.dead with
  | true => exact ddo_dead bd bm bz bb bl d vs k z a n s w hI hd
  | false =>
    cases hft : fitsF k n s with
    | false => exact ddo_misfit bd bm bz bb bl d vs k z a n s w hI hs hd hft
    | true =>
      by_cases he : (doF d.m k z a n).1.2 = 0
      · by_cases h1 : k = 1
        · exact ddo_w1 bd bm bz bb bl d vs k z a n s w hI hok hs hd hft h1 he
        · by_cases h2 : k = 2
          · exact ddo_w2 bd bm bz bb bl d vs k z a n s w hI hok hs hd hft h2 he
          · by_cases h3 : k = 3
            · exact ddo_e bd bm bz bb bl d vs k z a n s w hI hok hs hd hft h3 he
            · by_cases h4 : k = 4
              · exact ddo_f bd bm bz bb bl d vs k z a n s w hI hok hs hd hft h4 he
              · by_cases h7 : k = 7
                · exact ddo_g bd bm bz bb bl d vs k z a n s w hI hok hs hd hft h7 he
                · exact ddo_oth bd bm bz bb bl d vs k z a n s w hI hok hs hd hft h1 h2 h3 h4 h7 he
      · exact ddo_ref bd bm bz bb bl d vs k z a n s w hI hok hs hd hft he

end Go.Proofs.Ytojceddgmmapdaa
