/- Contracts and laws in plain Lean for RApp: group P74. -/
import Derived.Test.YtmhapcnlpoilpaaGreatDoorP68
namespace Go.Proofs.YtmhapcnlpoilpaaGreatDoor
theorem Tr.we_ge {T:Tr} {p s:Nat}:∀ {i:Nat},s≤T.we p s i
 | 0 => Nat.le_refl _
 | i+1 => Nat.le_trans (Tr.we_ge (i:=i)) (Nat.le_max_left _ _)
def jn (f:Nat→List UInt8) (c:UInt8):Nat→List UInt8
 | 0 => []
 | k+1 => jn f c k++((if 0<k then [c] else [])++f k)
theorem join_snoc (c:UInt8) (x:List UInt8):∀ L:List (List UInt8),Lib.join (L++[x]) [c]=Lib.join L [c]++((if L=[] then [] else [c])++x)
 | [] => by rw [List.nil_append,Lib.join_cons,Lib.join_nil,if_pos rfl];simp [Lib.joinTail]
 | a :: r => by
  rw [List.cons_append,Lib.join_cons,Lib.join_cons,if_neg (by simp)]
  simp [Lib.joinTail]
theorem join_jn (f:Nat→List UInt8) (c:UInt8):∀ k,Lib.join ((List.range k).map f) [c]=jn f c k
 | 0 => by simp [jn,Lib.join_nil]
 | k+1 => by
  have e:(if (List.range k).map f=[] then ([]:List UInt8) else [c])=if 0<k then [c] else []:=by
   cases k with
   | zero => rfl
   | succ n => rw [if_neg (by simp),if_pos (by omega)]
  rw [List.range_succ,List.map_append,List.map_singleton,join_snoc,join_jn f c k,e];rfl
end Go.Proofs.YtmhapcnlpoilpaaGreatDoor
