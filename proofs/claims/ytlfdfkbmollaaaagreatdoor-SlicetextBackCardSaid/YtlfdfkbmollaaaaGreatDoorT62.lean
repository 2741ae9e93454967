/- Contracts and laws in plain Lean for RApp: group T62. -/
import Derived.Test.YtlfdfkbmollaaaaGreatDoorT60
import Derived.Test.YtlfdfkbmollaaaaGreatDoorT38
import Derived.Lib.AppendZeros
namespace Go.Proofs.YtlfdfkbmollaaaaGreatDoor
open Go.RowKit Go.Shelf
theorem bool_fix {f:Nat} {args:Array Value} {w:World} {p:Prop} {b:Bool} (h:Calls Tryz.prog f args w (BoolPost p w)) (hb:b=true↔p):Calls Tryz.prog f args w (fun e w'=>e=.returned (.bool b)∧Ext w w'):=
 h.mono fun e w' ⟨c,he,hc,x⟩=>⟨by
  have:c=b:=by cases c <;> cases b <;> simp_all
  rw [he,this],x⟩
end Go.Proofs.YtlfdfkbmollaaaaGreatDoor
