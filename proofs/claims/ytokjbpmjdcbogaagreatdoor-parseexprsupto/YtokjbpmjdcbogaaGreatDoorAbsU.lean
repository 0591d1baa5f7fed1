/- Plain laws for the typed functions: numbers in their range, strings by lists, loops. -/
import Derived.Test.YtokjbpmjdcbogaaGreatDoorAbsT
import Derived.Laws.Bits64
import Derived.Laws.BitsLemmas
namespace Go.Proofs.YtokjbpmjdcbogaaGreatDoor.Abs
open Go Go.RowKit
set_option linter.unusedVariables false
set_option linter.unusedSimpArgs false
theorem w64 {n:Int} (h0:-9223372036854775808≤n) (h1:n≤9223372036854775807):IntKind.i64.wrap n=n:=by rw [IntKind.wrap_i64];omega
theorem w8u {n:Int} (h0:0≤n) (h1:n≤255):IntKind.u8.wrap n=n:=by rw [IntKind.wrap_u8];omega
def bA (l:List UInt8):ByteArray:=⟨l.toArray⟩
theorem zzc (l:List UInt8):(bA l).size=l.length:=by simp [bA,ByteArray.size]
theorem z0a1 (a b:List UInt8):bA a++bA b=bA (a++b):=by
 apply ByteArray.ext
 simp [bA,ByteArray.data_append]
theorem z06p {a b:List UInt8} (h:a.length+b.length≤9223372036854775807):scat (bA a) (bA b)=some (bA (a++b)):=by
 unfold scat
 rw [zzc,zzc,if_pos h,z0a1]
theorem eqT (b:ByteArray):(b.toList==b.toList)=true:=by simp
theorem sb {α β:Type} (x:α) (f:α→Option β):(some x>>=f)=f x:=rfl
end Go.Proofs.YtokjbpmjdcbogaaGreatDoor.Abs
