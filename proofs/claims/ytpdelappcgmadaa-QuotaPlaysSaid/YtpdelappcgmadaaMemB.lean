/- One rule more for a memory of known blocks: a struct in memory that came in. No condition. -/
import Derived.Test.YtpdelappcgmadaaMem
namespace Go.Proofs.Ytpdelappcgmadaa.M
open Go.RowKit
section
variable {P : Program} {ops : Array Oper} {Q : Exit → Act → World → Prop} {a : Act} {w w0 : World} {rest : List Oper} {o : Oper} {fr l : List Blk}
/-- A struct or an array in memory that came in is read whole. -/
theorem ld_old {ty : TypeId} {x : Operand} {b off : Nat} (cs : List Value) (hop : o.op = .load ty x) (hw : Region.wanted o (yielded ops a.tmps) = true) (hM : Mem w0 w fr l)
    (hx : a.eval x = .pointer (some ⟨b, off, none⟩)) (hb : b < w0.heap.size) (hc : w0.rangeAt b off cs) (ht : RowTy P ty cs.length)
    (h : wpList P ops Q rest (a.put o.dst (.agg cs.toArray)) w) : WPL P ops Q o rest a w :=
  wanted hw fun K hK => by
    obtain ⟨d, hu, hd⟩ := ht.agg
    have hc' : w.rangeAt b off cs := fun j v hv => (hM.oldCell (a := ⟨b, off + j, none⟩) hb).trans (hc j v hv)
    exact wp_load_mid ty x hop b off hx cs d hc' hu (by cases d <;> simp_all) ht.size (hK _ _ h)

end
end Go.Proofs.Ytpdelappcgmadaa.M
