import Derived.Test.YtkdiccgfbfbjlaaGreatCode
import Derived.KernelRfl
namespace Go.Proofs.YtkdiccgfbfbjlaaGreat
open Go Go.Ev
set_option maxHeartbeats 2000000
set_option maxRecDepth 100000
noncomputable def fitB (n:Nat):Bool:=match evFn cfg 50 n_dw 0 [.d (.int .i64 ((n:Int)))] [] with
 |some (.d (.int .i64 (.ofNat k)),[])=>decide (k≤64)
 |_=>false
noncomputable def codeB (n:Nat):Bool:=match evFn cfg 50 n_dt 0 [.d (.int .i64 ((n:Int)))] [] with
 |some (.d (.tup [.int .i64 (.ofNat k),.bool _]),[])=>decide (k≤64)
 |_=>false
theorem fit_all:(List.range 65).all fitB=true:=yr
theorem code_all:(List.range 65).all codeB=true:=yr
theorem a3s {n:Nat} (h:n≤64):∃ k:Nat,k≤64∧evL cfg n_dw 0 [.d (.int .i64 ((n:Int)))] []=some (.d (.int .i64 ((k:Int))),[]):=by
 have:=aac.1 fit_all n (aax.2 yp);unfold fitB at this;split at this
 · rename_i k hk
   exact⟨k,by simpa using this,ap (n:=50) hk⟩
 · cases this
theorem auz {n:Nat} (h:n≤64):∃ (k:Nat) (q:Bool),k≤64∧evL cfg n_dt 0 [.d (.int .i64 ((n:Int)))] []=some (.d (.tup [.int .i64 (k:Int),.bool q]),[]):=by
 have:=aac.1 code_all n (aax.2 yp);unfold codeB at this;split at this
 · rename_i k q hk
   exact⟨k,q,by simpa using this,ap (n:=50) hk⟩
 · cases this
