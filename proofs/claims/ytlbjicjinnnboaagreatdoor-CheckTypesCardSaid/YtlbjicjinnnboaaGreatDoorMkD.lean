/- MkD: PCall, PAtom. -/
import Derived.Test.YtlbjicjinnnboaaGreatDoorMkC
import Derived.Test.YtlbjicjinnnboaaGreatDoorShelf
import Derived.Lib.AtoiAll
set_option linter.unusedVariables false
set_option linter.unusedSimpArgs false
/- The parser's functions: call, block. Printed by wip/tools/mkright.py. -/
namespace Go.Proofs.YtlbjicjinnnboaaGreatDoor
open Go.RowKit
section
variable {src:ByteArray}{tb tc:Nat}{ts:List Tok}{g:Nat}{n:Nat}
end
section
variable {src:ByteArray}{tb tc:Nat}{ts:List Tok}{g:Nat}{n:Nat}
theorem Fr.bytes {w w':World} (e:TypeId) (h:w'=w∨∃t,w'=Lib.bytesWorld w e t):Fr nob w w':=by
 rcases h with rfl|⟨t,rfl⟩
 · exact Fr.refl _ _
 · have hb:=Lib.bytesWorld_below w e t
   exact⟨hb.os,hb.tape,hb.output,hb.size,fun k hk _=>hb.block k hk⟩
theorem uint10_of:∀(l:List UInt8) (a:Nat),allDigits l→digitsVal a l≤9223372036854775807→Lib.parseUint10 a l = .ok (digitsVal a l)
 | [],a,_,_=>rfl
 | c :: r,a,hd,hv=>by
  have hc:=hd c List.mem_cons_self;rw[digitsVal_cons] at hv ⊢;have hge:=digitsVal_ge (a*10+(c.toNat - 48)) r;unfold Lib.parseUint10;rw[if_pos hc,if_neg (by omega),if_neg (by omega)];exact uint10_of r _ (fun x hx=>hd x (List.mem_cons_of_mem _ hx)) hv
theorem atoi_of {l:List UInt8} (h0:l≠[]) (hd:allDigits l) (hv:digitsVal 0 l≤9223372036854775807):Lib.atoiAll l = .ok (digitsVal 0 l:Nat):=by
 cases l with
 | nil=>exact absurd rfl h0
 | cons c r=>
  have hc:=hd c List.mem_cons_self;have hm:Lib.parseMag (c :: r) = .ok (digitsVal 0 (c :: r)):=by
   unfold Lib.parseMag;rw[if_neg (by simp)];exact uint10_of _ _ hd hv
  unfold Lib.atoiAll;have h45:¬c.toNat=45:=by omega
  have h43:¬c.toNat=43:=by omega
  simp only[h43,h45,or_self,if_false];rw[hm];dsimp only;rw[if_neg (by omega),if_neg (by simp)]
end
end Go.Proofs.YtlbjicjinnnboaaGreatDoor
