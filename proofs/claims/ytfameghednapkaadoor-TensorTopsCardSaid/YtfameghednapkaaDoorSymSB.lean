/- slices: symMerge: what it is to be. -/
import Derived.Test.YtfameghednapkaaDoorSort4B
namespace Go.Proofs.YtfameghednapkaaDoor.Sort
open Go.RowKit Go.Proofs.YtfameghednapkaaDoorW.PrintWords Go.Proofs.YtfameghednapkaaDoorW.PrintLast Go.Proofs.YtfameghednapkaaDoorW.PrintMore Go.Proofs.YtfameghednapkaaDoor.K Go.Proofs.YtfameghednapkaaDoor.RI
set_option linter.unusedVariables false
set_option linter.unusedSimpArgs false
theorem w_i64 (x : Int) (h0 : -1000000000 ≤ x) (h1 : x ≤ 1000000000) : IntKind.i64.wrap x = x := by rw [IntKind.wrap_i64]; omega
theorem w_u64 (x : Int) (h0 : 0 ≤ x) (h1 : x ≤ 1000000000) : IntKind.u64.wrap x = x := by rw [IntKind.wrap_u64]; omega
def SymOk (pr : Int → Int → Prop) (fid : Nat) (fa lb : Array Value) (cf : Int → Int → Int) (D : Int → Prop) (g n c B : Nat) (L : Nat) : Prop := ∀ (a m b : Nat) (xs : List Int) (w : World), b - a < L → Cmp fid fa lb cf D B g w → Dat w g c xs → xs.length = n → (∀ x ∈ xs, D x) → B ≤ g → a < m → m < b → b ≤ n → n ≤ 1000000 →
    SortedOn pr (fun j => xs.getD j 0) a m → SortedOn pr (fun j => xs.getD j 0) m b → Tells2 pr cf (fun j => xs.getD j 0) a m b →
    Calls Tryd.prog 76 #[.slice (some ⟨g, 0, none⟩) n c, .int .i64 (a : Int), .int .i64 (m : Int), .int .i64 (b : Int), .func (.func fid) fa lb] w fun e w' => e = .returned (.tuple #[]) ∧ MergeEnd pr B g c n a b (fun j => xs.getD j 0) w w'
end Go.Proofs.YtfameghednapkaaDoor.Sort
