import Derived.Test.YtkoaogkknnelaaaGreatDoorM13
import Derived.Test.YtkoaogkknnelaaaGreatDoorM12
set_option linter.unusedVariables false
set_option linter.unusedSimpArgs false
namespace Go.Proofs.YtkoaogkknnelaaaGreatDoor
namespace Big
open Go.RowKit
theorem Gv.node{l:List Nd}{i:Nat}{e:Ex}(h:Gv l i e):∃hi:i<l.length,l[i].kind=(e.kind:Int):=by
 have hi:=h.lt.1;refine⟨hi,?_⟩;have h2:∃nd,l[i]? =some nd/\nd.kind=(e.kind:Int):=by
  cases e with
  |leaf k t=>exact⟨_,h.leaf,rfl⟩
  |un k n x=>exact⟨_,h.un.2.1,rfl⟩
  |bin k x y=>obtain⟨j,_,h3,_⟩:=h.bin;exact⟨_,h3,rfl⟩
 obtain⟨nd,h3,h4⟩:=h2;rw[qad hi]at h3;injection h3 with h3
 rw[h3,h4]
theorem Ex.Good.kinds{e:Ex}(h:e.Good):1<=e.kind/\e.kind<=16:=by
 cases e with
 |leaf k t=>unfold Ex.Good at h;show 1<=k/\k<=16;omega
 |un k n x=>obtain⟨h1,_⟩:=h;show 1<=k/\k<=16;omega
 |bin k x y=>obtain⟨h1,_⟩:=h;show 1<=k/\k<=16;omega
theorem Blk.five{w:World}{g:Nat}{t:TypeId}{a b c d e:Value}(h:Blk w g t #[a,b,c,d,e]):w.cell? ⟨g,0,none⟩=some a/\w.cell? ⟨g,1,none⟩=some b/\w.cell? ⟨g,2,none⟩=some c/\w.cell? ⟨g,3,none⟩=some d/\w.cell? ⟨g,4,none⟩=some e:=
 ⟨h.cell 0,h.cell 1,h.cell 2,h.cell 3,h.cell 4⟩
end Big
end Go.Proofs.YtkoaogkknnelaaaGreatDoor
