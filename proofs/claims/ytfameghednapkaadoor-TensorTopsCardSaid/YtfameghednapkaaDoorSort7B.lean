/- slices: symMerge, whole. -/
import Derived.Test.YtfameghednapkaaDoorSort5B
import Derived.Test.YtfameghednapkaaDoorSort6B
namespace Go.Proofs.YtfameghednapkaaDoor.Sort
open Go.RowKit Go.Proofs.YtfameghednapkaaDoorW.PrintWords Go.Proofs.YtfameghednapkaaDoorW.PrintLast Go.Proofs.YtfameghednapkaaDoorW.PrintMore Go.Proofs.YtfameghednapkaaDoor.K Go.Proofs.YtfameghednapkaaDoor.RI
set_option linter.unusedVariables false
set_option linter.unusedSimpArgs false
theorem sym_ok {pr : Int → Int → Prop} (hS : Strict pr) (fid : Nat) (fa lb : Array Value) (cf : Int → Int → Int) (D : Int → Prop) (g n c B : Nat) : ∀ L, SymOk pr fid fa lb cf D g n c B L
  | 0 => fun a m b xs w h => by omega
  | L + 1 => fun a m b xs w h hCmp hxs hn hD hB ham hmb hbn hm9 hL hR hT => by
    have ih : SymOk pr fid fa lb cf D g n c B (b - a) := fun a' m' b' xs' w' h' => sym_ok hS fid fa lb cf D g n c B L a' m' b' xs' w' (by omega)
    by_cases h1 : m = a + 1
    · exact sym_left_calls hS fid fa lb cf D g n c B a m b xs w hCmp hxs hn hD hB ham hmb hbn hm9 hL hR hT h1
    · by_cases h2 : b = m + 1
      · exact sym_right_calls hS fid fa lb cf D g n c B a m b xs w hCmp hxs hn hD hB ham hmb hbn hm9 hL hR hT h2 h1
      · by_cases hmm : (a + b) / 2 < m
        · exact sym_low_calls hS fid fa lb cf D g n c B a m b xs w hCmp hxs hn hD hB ham hmb hbn hm9 hL hR hT ih h1 h2 _ rfl hmm
        · exact sym_high_calls hS fid fa lb cf D g n c B a m b xs w hCmp hxs hn hD hB ham hmb hbn hm9 hL hR hT ih h1 h2 _ rfl hmm
end Go.Proofs.YtfameghednapkaaDoor.Sort
