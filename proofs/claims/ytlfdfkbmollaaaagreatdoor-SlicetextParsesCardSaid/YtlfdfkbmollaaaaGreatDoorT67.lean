/- Contracts and laws in plain Lean for RApp: group T67. -/
import Derived.Test.YtlfdfkbmollaaaaGreatDoorT65
import Derived.Test.YtlfdfkbmollaaaaGreatDoorT20
import Derived.Test.YtlfdfkbmollaaaaGreatDoorT01
import Derived.Deep.LoopGhost
import Derived.Lib.Join
namespace Go.Proofs.YtlfdfkbmollaaaaGreatDoor
open Go.RowKit Go.Shelf
attribute [local go_sem] Oper.semAt_some
def sumN (v:Nat→Int):Nat→Int | 0=>0 | n+1=>sumN v n+v n
theorem sumN_le {v:Nat→Int} {c:Nat}:∀ {n:Nat},(∀ k,k<n→0≤v k∧v k≤c)→0≤sumN v n∧sumN v n≤(n*c:Nat)
 | 0,_ => by simp [sumN]
 | n+1,h => by
  have h1:=sumN_le (n:=n) fun k hk=>h k (by omega)
  have h2:=h n (by omega)
  rw [Nat.succ_mul];unfold sumN;omega
theorem infoStr:(Tryz.prog.info? 9).map (fun i=>(i.zero,i.size,i.bytes))=some (some (.string ⟨#[]⟩),1,16):=by kernel_rfl
def strV (l:List (List UInt8)):List Value:=l.map fun s=>.string (bts s)
theorem one_str (l:List UInt8):∀ u∈[Value.string (bts l)],u.oneCell'=true:=by
 intro u hu;simp at hu;subst hu;rfl
end Go.Proofs.YtlfdfkbmollaaaaGreatDoor
