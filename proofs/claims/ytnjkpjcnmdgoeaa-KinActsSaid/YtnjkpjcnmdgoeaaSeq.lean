/- Quick looks at the goal, ahead of an arm of a walk: each fails at once where the next operation is another one. -/
import Derived.Maps.RangeWalk
import Derived.Tactics2
namespace Go
section
variable {P : Program} {ops : Array Oper} {Q : Exit → Act → World → Prop} {a : Act} {w : World} {rest : List Oper} {o : Oper}
theorem at_dst (d : Tmp) {op : Op} {t : TypeId} {pos : String} {after : Array Edge} {guard : Option (Nat × Bool)} (h : wpList P ops Q ({ dst := some d, op := op, type := t, pos := pos, after := after, guard := guard } :: rest) a w) : wpList P ops Q ({ dst := some d, op := op, type := t, pos := pos, after := after, guard := guard } :: rest) a w := h
theorem at_store {op : Op} {t : TypeId} {pos : String} {after : Array Edge} {guard : Option (Nat × Bool)} (h : wpList P ops Q ({ dst := none, op := op, type := t, pos := pos, after := after, guard := guard } :: rest) a w) : wpList P ops Q ({ dst := none, op := op, type := t, pos := pos, after := after, guard := guard } :: rest) a w := h
theorem at_list (h : wpList P ops Q (o :: rest) a w) : wpList P ops Q (o :: rest) a w := h
end
end Go
