/-
  The reference's text and Format.
-/
import Derived.Test.YtmbmngnnfkdngaaDoorRTxA
import Derived.Test.YtmbmngnnfkdngaaDoorRTxB
import Derived.Test.YtmbmngnnfkdngaaDoorRTxC
import Derived.Test.YtmbmngnnfkdngaaDoorRTxD
namespace Go.Proofs.YtmbmngnnfkdngaaDoor
open Go.RowKit

theorem rtext_any : ∀ d, TxOk d
  | 0 => fun _ _ _ _ _ _ _ _ h => h.elim
  | d + 1 => fun op n nm A c ks w hd hok hc hm hr => by
    have ih := rtext_any d
    obtain ⟨hna, -, -⟩ := node_parts hok.1
    obtain ⟨r1, r2⟩ := arity_range hna
    by_cases e4 : op ≤ 4
    · exact text_small d ih op n nm A c ks w hd hok hc hm hr e4
    by_cases e12 : op ≤ 12
    · exact text_infix d ih op n nm A c ks w hd hok hc hm hr (by omega) e12
    by_cases et : op = 19 ∨ op = 20
    · exact text_timed d ih op n nm A c ks w hd hok hc hm hr (by omega) et
    · exact text_call d ih op n nm A c ks w hd hok hc hm hr (by omega) et
end Go.Proofs.YtmbmngnnfkdngaaDoor
