/-
  The law's own walk of PastNodes.
-/
import Derived.Test.YtdpbgcmfeajigaaGreatDoorA33
set_option linter.unusedSimpArgs false
set_option linter.unusedVariables false
namespace Go.Proofs.YtdpbgcmfeajigaaGreatDoor
open Go.RowKit Go.Shelf
attribute [local go_sem] ak run_store_func
theorem OL {D:Dom}(f:Fm)(v:Value)(k':Int)(k:Nat)(w:World)(hk:k'=(k:Int))(h:bI w D v f)(hl:k<=1000000)(r:Bool)(hr:decide (f.size<=k)=r) :
  Calls Tryz.prog 9 #[v,.int .i64 k'] w λ e w'=>e = .returned (.bool r)/\Below w.heap.size w w':=by
 subst hk hr;exact Gv f v k w h hl
theorem Ua (x:Int)(h0:0<=x)(h1:x<=255)(w:World):(Go.convert 5 3 (.int .u8 x)).run Tryz.prog w = .ok (.int .i64 x) w:=by
 rw[run_convert_int w 5 3 .u8 _ (by kernel_rfl) (by kernel_rfl)];have e:Tryz.prog.intKind 3 = .i64:=by kernel_rfl
 rw[e,IntWalk.i64_in _ (by omega)]
end Go.Proofs.YtdpbgcmfeajigaaGreatDoor
