/- Objects: the test of the flat fields; loads of an object and of its fields. -/
import Derived.Test.YtanflcccjjbkgaaDoorObC
import Derived.Test.YtanflcccjjbkgaaDoorLdq
namespace Go.Proofs.YtanflcccjjbkgaaDoor
open Go.RowKit

def ObjC (o : Ob) : Array Value := #[.int .i64 o.kind, .string o.name, .int .i64 o.uid, .int .i64 o.ver, .bool o.del, .slice o.fin.a o.fin.n o.fin.c, .slice o.lab.a o.lab.n o.lab.c, .slice o.cid.a o.cid.n o.cid.c, .string o.status, .int .i64 o.type, .int .i64 o.pol, .slice o.fam.a o.fam.n o.fam.c, .slice o.ips.a o.ips.n o.ips.c, .string o.v4, .string o.v6, .int .i64 o.hb, .string o.sel, .string o.about, .string o.reason]
theorem ObjV_eq (o : Ob) : ObjV o = .agg (ObjC o) := rfl
def flatEq (a b : Ob) : Bool := decide (a.kind = b.kind) && (decide (a.uid = b.uid) && (decide (a.ver = b.ver) && (decide (a.type = b.type) && (decide (a.pol = b.pol) && (decide (a.hb = b.hb) && (decide (a.del = b.del) && (decide (a.name.toList = b.name.toList) && (decide (a.status.toList = b.status.toList) && (decide (a.v4.toList = b.v4.toList) && (decide (a.v6.toList = b.v6.toList) && (decide (a.sel.toList = b.sel.toList) && (decide (a.about.toList = b.about.toList) && (decide (a.reason.toList = b.reason.toList))))))))))))))
set_option maxRecDepth 100000 in
set_option maxHeartbeats 1600000 in
theorem eql_flat {w : World} {p q : Ob} {a : Act} {o : Oper} {x y : Operand} {t2 : TypeId} (ho : o.op = .binOp .eql 102 x y t2) (hx : a.eval x = FlatV p) (hy : a.eval y = FlatV q) :
    (execOp a.eval o).run Tryd.prog w = .ok (.value (.bool (flatEq p q))) w := by
  unfold execOp
  simp only [ho, hx, hy]
  have key : ∀ (c : Prop) [Decidable c] (b : Bool), (if c then (Result.ok (Next.value (Value.bool b)) w : Result Next) else Result.ok (Next.value (Value.bool false)) w) = Result.ok (Next.value (Value.bool (decide c && b))) w := by
    intro c _ b
    by_cases h : c <;> simp [h]
  have KEY := Lib.hid key
  clear key
  unfold FlatV flatEq
  go_simp
  have key := KEY.out
  simp only [key, Bool.and_true]
theorem load_obj {w : World} {g : Nat} {cs : Array Value} {a : Act} {o : Oper} {t : Operand} (ho : o.op = .load 46 t) (hx : a.eval t = .pointer (some ⟨g, 0, none⟩)) (h : Blk w g 46 cs) (hs : cs.size = 19) :
    (execOp a.eval o).run Tryd.prog w = .ok (.value (.agg cs)) w := by
  have := run_loadVar_row w g 46 46 cs (0, 0) _ h Tryd.underlying46 rfl (by rw [hs]; kernel_rfl)
  unfold execOp
  simp only [ho, hx, Instr.loadAt, Instr.sureAddr, Sem.run_bind, Sem.run_pure, Result.andThen_ok, this]
/-- one field of one cell -/
theorem load_fld {w : World} {g j : Nat} {T ty : TypeId} {cs : Array Value} {v : Value} {a : Act} {o : Oper} {t : Operand} (ho : o.op = .load ty t) (hx : a.eval t = .pointer (some ⟨g, j, none⟩)) (h : Blk w g T cs) (hv : cs[j]? = some v)
    (ha : ∀ w, (isAgg ty).run Tryd.prog w = .ok false w) : (execOp a.eval o).run Tryd.prog w = .ok (.value v) w := by
  have hc := (h.cell j).trans hv
  unfold execOp
  simp only [ho, hx]
  have ha' := ha w
  go_simp
end Go.Proofs.YtanflcccjjbkgaaDoor
