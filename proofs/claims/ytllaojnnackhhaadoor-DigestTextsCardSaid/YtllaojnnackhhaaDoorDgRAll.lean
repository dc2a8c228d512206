/-
  The reference's Sum answers the digest, for any bytes.
-/
import Derived.Test.YtllaojnnackhhaaDoorDgRBlock
namespace Go.Proofs.YtllaojnnackhhaaDoor
open Go.RowKit
theorem rblock_gen (s : S8) (A : Option Addr) (c : Nat) (b : List Int) (w : World) (hok : s.Ok) (hb : Byt w w.heap.size A 64 b) (hc : 64 ≤ c) (hc2 : c ≤ maxLen) :
    Calls Tryd.prog 22 #[.agg s.cells, .slice A 64 c] w fun e w' => e = .returned (.agg (blockF s b).cells) ∧ Below w.heap.size w w' := by
  obtain ⟨b', o', x, rfl, _⟩ := hb.at' (k := 0) (by omega)
  exact rblock_any s hok b' o' c b w hb hc hc2
theorem rsum_all (A : Option Addr) (n c : Nat) (l : List Int) (w : World) (hb : Byt w w.heap.size A n l) (hlim : n + 100 ≤ 140737488355328) :
    Calls Tryd.prog 10 #[.slice A n c] w fun e w' => ∃ A' c', e = .returned (.slice A' 32 c') ∧ 32 ≤ c' ∧ c' ≤ maxLen ∧ w'.ownsRow w.heap.size 5 1 (.slice A' 32 c') 32 (bv (shaF l)) ∧ Below w.heap.size w w' :=
  rsum_any rblock_gen A n c l w hb hlim
end Go.Proofs.YtllaojnnackhhaaDoor
