/- Texts of the claim, one behind the other: DaM, Pu, LnN, LnK, RgL, LnI, LnJ, DaT. -/
import Derived.MapKept
import Derived.Lib.ItoaLen
import Derived.Test.YtjdlgannencchaaGreatDoorRLinesHeal3
namespace Go.Proofs.YtjdlgannencchaaGreatDoor
open Go.ChangeShapes Go.WideShapes Go.ChangeAt Go.RowKit
set_option linter.unusedVariables false
set_option linter.unusedSimpArgs false
noncomputable section
def eLine (x:Int×Int×Int):List Value:=[.int .i64 x.1,.int .i64 x.2.1,.int .i64 x.2.2]
theorem eLine_one (x:Int×Int×Int) : ∀ u ∈ eLine x,u.oneCell'=true:=by simp [eLine]; exact ⟨rfl,rfl,rfl⟩
def eBus (x:Int×Int):List Value:=[.int .i64 x.1,.int .i64 x.2]
theorem eBus_one (x:Int×Int) : ∀ u ∈ eBus x,u.oneCell'=true:=by simp [eBus]; exact ⟨rfl,rfl⟩
def ePermit (x:Int×Int):List Value:=[.int .i64 x.1,.int .i64 x.2]
theorem ePermit_len (x:Int×Int):(ePermit x).length=2:=rfl
theorem ePermit_one (x:Int×Int) : ∀ u ∈ ePermit x,u.oneCell'=true:=by simp [ePermit]; exact ⟨rfl,rfl⟩
def m_Number_s (rec:Int → Option ByteArray) (x0:Int):Option (ByteArray):=(bif (ltB x0 0) && (x0 == (w64 (0 - x0))) then some ({ data:=#[45,57,50,50,51,51,55,50,48,51,54,56,53,52,55,55,53,56,48,56] }:ByteArray) else (bif ltB x0 0 then Option.bind (rec (w64 (0 - x0))) (fun p108=>chk (stB ({ data:=#[45] }:ByteArray).size p108.size) (some (({ data:=#[45] }:ByteArray)++p108))) else (bif ltB x0 10 then some (strOfNums ([wk .u8 (w64 (48+x0))]:List Int)) else Option.bind (rec (w64 (Int.tdiv x0 10))) (fun p104=>chk (stB p104.size (strOfNums ([wk .u8 (w64 (48+(Int.tmod x0 10)))]:List Int)).size) (some (p104++(strOfNums ([wk .u8 (w64 (48+(Int.tmod x0 10)))]:List Int))))))))
def m_impl_Net_hasBus (x0:Int) (x1:List (Int×Int×Int)) (x2:Int):Option (Bool):=some ((leB 0 x2) && (ltB x2 x0))
def m_impl_NetValid_l1s (x0:Int) (x1:List (Int×Int×Int)) (rec:Int → Option (Unit ⊕ Bool)) (p106:Int):Option (Unit ⊕ Bool):=(bif ltB p106 (x1.length:Int) then chk (ixB p106 x1.length) (Option.bind (m_impl_Net_hasBus x0 x1 ((x1.getD p106.toNat ((0,0,0):Int×Int×Int)).1)) (fun p110=>Option.bind (gb (!(!p110)) (m_impl_Net_hasBus x0 x1 ((x1.getD p106.toNat ((0,0,0):Int×Int×Int)).2.1))) (fun p111=>(bif ((((!p110) || (!p111)) || (((x1.getD p106.toNat ((0,0,0):Int×Int×Int)).1) == ((x1.getD p106.toNat ((0,0,0):Int×Int×Int)).2.1))) || (ltB ((x1.getD p106.toNat ((0,0,0):Int×Int×Int)).2.2) 1)) || (ltB 999 ((x1.getD p106.toNat ((0,0,0):Int×Int×Int)).2.2)) then some (Sum.inr false) else rec (w64 (p106+1)))))) else some (Sum.inl ()))
def m_impl_NetValid_l1 (x0:Int) (x1:List (Int×Int×Int)):Nat → Int → Option (Unit ⊕ Bool):=itr (m_impl_NetValid_l1s x0 x1)
theorem e_impl_NetValid_l1 (x0:Int) (x1:List (Int×Int×Int)) (n:Nat) (p:Int) : m_impl_NetValid_l1 x0 x1 (n+1) p=m_impl_NetValid_l1s x0 x1 (m_impl_NetValid_l1 x0 x1 n) p:=rfl
def m_impl_NetValid (x0:Int) (x1:List (Int×Int×Int)):Option (Bool):=(bif ((ltB x0 1) || (ltB 8 x0)) || (ltB 10 (x1.length:Int)) then some false else Option.bind (m_impl_NetValid_l1 x0 x1 FUEL 0:Option (Unit ⊕ Bool)) (Sum.elim (fun (p103:Unit)=>some true) (fun (r:Bool)=>some r)))
def m_impl_digitsOf_l1s (x0:ByteArray) (rec:(Int×Int) → Option (Int ⊕ Int)) (p105:(Int×Int)):Option (Int ⊕ Int):=(bif ltB p105.2 (x0.size:Int) then chk (ixB p105.2 x0.size) (chk (!(!(ltB (byteAt x0 p105.2) 48)) || ixB p105.2 x0.size) ((bif (ltB (byteAt x0 p105.2) 48) || (ltB 57 (byteAt x0 p105.2)) then some (Sum.inr (-1)) else chk (ixB p105.2 x0.size) (rec (w64 ((w64 (10 * p105.1))+(w64 (wk .u8 ((byteAt x0 p105.2) - 48)))),w64 (p105.2+1)))))) else some (Sum.inl p105.1))
def m_impl_digitsOf_l1 (x0:ByteArray):Nat → (Int×Int) → Option (Int ⊕ Int):=itr (m_impl_digitsOf_l1s x0)
theorem e_impl_digitsOf_l1 (x0:ByteArray) (n:Nat) (p:(Int×Int)) : m_impl_digitsOf_l1 x0 (n+1) p=m_impl_digitsOf_l1s x0 (m_impl_digitsOf_l1 x0 n) p:=rfl
def m_impl_digitsOf (x0:ByteArray):Option (Int):=(bif (ltB (x0.size:Int) 1) || (ltB 3 (x0.size:Int)) then some (-1) else Option.bind (m_impl_digitsOf_l1 x0 FUEL (0,0):Option (Int ⊕ Int)) (Sum.elim (fun (p102:Int)=>some p102) (fun (r:Int)=>some r)))
def m_impl_readNumber (x0:ByteArray):Option (Int×Bool):=Option.bind (m_impl_digitsOf x0) (fun p101=>Option.bind (gb (leB 0 p101) (m_strconv_Itoa p101)) (fun p102=>some (p101,(leB 0 p101) && (p102.toList == x0.toList))))
def m_impl_NetText (b:Int) (ls:List (Int×Int×Int)):Option ByteArray:=Option.bind (m_impl_NetValid b ls) (fun p=>bif p then chk (netB b ls) (some (bs8 (netT b ls))) else some (bs8 []))
def m_impl_readDeed (ws:List ByteArray):Option (Int×Int×Int×Bool):=bif decide (ws.length=2) then Option.bind (m_impl_readNumber (ws.getD 1 ByteArray.empty)) (fun p=>some ((lkS kd1 (ws.getD 0 ByteArray.empty)).1,p.1,0,(lkS kd1 (ws.getD 0 ByteArray.empty)).2 && p.2)) else bif decide (ws.length=3) then Option.bind (m_impl_readNumber (ws.getD 1 ByteArray.empty)) (fun p=>Option.bind (m_impl_readNumber (ws.getD 2 ByteArray.empty)) (fun q=>some ((lkS kd2 (ws.getD 0 ByteArray.empty)).1,p.1,q.1,(lkS kd2 (ws.getD 0 ByteArray.empty)).2 && p.2 && q.2))) else some (0,0,0,false)
def m_spec_l20Rd_pick (x0:List Int) (x1:Int) (x2:Int):Option (Int×Int):=(bif (ltB x2 1) || ((x0.length:Int) == 0) then some (0,w64 (x1+1)) else (bif ltB (w64 ((w64 (x1+1)) - 1)) (x0.length:Int) then chk (ixB (w64 ((w64 (x1+1)) - 1)) x0.length) (chk (nzB x2) (some (Int.tmod (w64 ((x0.getD ((w64 ((w64 (x1+1)) - 1)).toNat) (0:Int)))) x2,w64 (x1+1)))) else chk (nzB (x0.length:Int)) (chk (ixB (Int.tmod (w64 ((w64 (x1+1)) - 1)) (x0.length:Int)) x0.length) (chk (nzB (x0.length:Int)) (chk (ixB (Int.tmod (w64 ((w64 ((w64 ((w64 (x1+1)) - 1)) * 7))+3)) (x0.length:Int)) x0.length) (chk (nzB (x0.length:Int)) (chk (nzB x2) (some (Int.tmod (bitsXor .i64 (w64 ((w64 ((w64 ((w64 ((w64 ((x0.getD ((Int.tmod (w64 ((w64 (x1+1)) - 1)) (x0.length:Int)).toNat) (0:Int)))) * 131))+(w64 ((w64 ((x0.getD ((Int.tmod (w64 ((w64 ((w64 ((w64 (x1+1)) - 1)) * 7))+3)) (x0.length:Int)).toNat) (0:Int)))) * 1117))))+(w64 ((w64 ((w64 (x1+1)) - 1)) * 29))))+(w64 ((w64 (Int.tdiv (w64 ((w64 (x1+1)) - 1)) (x0.length:Int))) * 53)))) (w64 (Int.tdiv (w64 ((w64 ((w64 ((w64 ((w64 ((x0.getD ((Int.tmod (w64 ((w64 (x1+1)) - 1)) (x0.length:Int)).toNat) (0:Int)))) * 131))+(w64 ((w64 ((x0.getD ((Int.tmod (w64 ((w64 ((w64 ((w64 (x1+1)) - 1)) * 7))+3)) (x0.length:Int)).toNat) (0:Int)))) * 1117))))+(w64 ((w64 ((w64 (x1+1)) - 1)) * 29))))+(w64 ((w64 (Int.tdiv (w64 ((w64 (x1+1)) - 1)) (x0.length:Int))) * 53)))) 64))) x2,w64 (x1+1))))))))))
def m_spec_l20Rd_odd (x0:List Int) (x1:Int) (x2:Int):Option (Bool×Int):=Option.bind (bif ltB 0 x2 then Option.bind (m_spec_l20Rd_pick x0 x1 x2) (fun p105=>some (p105.1 == (w64 (x2 - 1)),p105.2)) else some (false,x1)) (fun p101=>some (p101.1,p101.2))
def m_spec_l20Radial_l1s (x0:List Int) (p102:Int×Int) (p106:Int×Int) (rec:(List Bool×List (Int×Int)×Int×Int×List (Int×Int×Int)) → Option ((List Bool×List (Int×Int)×Int×List (Int×Int×Int)))) (p116:(List Bool×List (Int×Int)×Int×Int×List (Int×Int×Int))):Option ((List Bool×List (Int×Int)×Int×List (Int×Int×Int))):=(bif ltB p116.2.2.1 (w64 (2+p102.1)) then Option.bind (bif ltB 0 p116.2.2.1 then Option.bind (m_spec_l20Rd_pick x0 p116.2.2.2.1 p116.2.2.1) (fun p132=>Option.bind (m_spec_l20Rd_pick x0 p132.2 90) (fun p133=>chk (apB p116.2.2.2.2.length ([(p132.1,p116.2.2.1,w64 (10+p133.1))]:List (Int×Int×Int)).length) (Option.bind (bif p106.1 == 0 then chk (apB p116.1.length ([true]:List Bool).length) (some (p116.1++([true]:List Bool),p133.2)) else Option.bind (m_spec_l20Rd_pick x0 p133.2 6) (fun p144=>chk (apB p116.1.length ([ltB 0 p144.1]:List Bool).length) (some (p116.1++([ltB 0 p144.1]:List Bool),p144.2)))) (fun p138=>some (p138.1,p138.2,p116.2.2.2.2++([(p132.1,p116.2.2.1,w64 (10+p133.1))]:List (Int×Int×Int))))))) else some (p116.1,p116.2.2.2.1,p116.2.2.2.2)) (fun p124=>Option.bind (m_spec_l20Rd_pick x0 p124.2.1 20) (fun p153=>chk (apB p116.2.1.length ([(0,p153.1)]:List (Int×Int)).length) (rec (p124.1,p116.2.1++([(0,p153.1)]:List (Int×Int)),w64 (p116.2.2.1+1),p153.2,p124.2.2)))) else some (p116.1,p116.2.1,p116.2.2.2.1,p116.2.2.2.2))
def m_spec_l20Radial_l1 (x0:List Int) (p102:Int×Int) (p106:Int×Int):Nat → (List Bool×List (Int×Int)×Int×Int×List (Int×Int×Int)) → Option ((List Bool×List (Int×Int)×Int×List (Int×Int×Int))):=itr (m_spec_l20Radial_l1s x0 p102 p106)
theorem e_spec_l20Radial_l1 (x0:List Int) (p102:Int×Int) (p106:Int×Int) (n:Nat) (p:(List Bool×List (Int×Int)×Int×Int×List (Int×Int×Int))) : m_spec_l20Radial_l1 x0 p102 p106 (n+1) p=m_spec_l20Radial_l1s x0 p102 p106 (m_spec_l20Radial_l1 x0 p102 p106 n) p:=rfl
def m_spec_l20Radial_l2s (x0:List Int) (p102:Int×Int) (rec:(List Bool×Int×Int×List (Int×Int×Int)) → Option ((List Bool×Int×List (Int×Int×Int)))) (p166:(List Bool×Int×Int×List (Int×Int×Int))):Option ((List Bool×Int×List (Int×Int×Int))):=(bif ltB 0 p166.2.1 then Option.bind (m_spec_l20Rd_pick x0 p166.2.2.1 (w64 (2+p102.1))) (fun p172=>Option.bind (m_spec_l20Rd_pick x0 p172.2 (w64 ((w64 (2+p102.1)) - 1))) (fun p173=>chk (nzB (w64 (2+p102.1))) (Option.bind (m_spec_l20Rd_pick x0 p173.2 50) (fun p175=>chk (apB p166.2.2.2.length ([(p172.1,Int.tmod (w64 ((w64 (p172.1+1))+p173.1)) (w64 (2+p102.1)),w64 (10+p175.1))]:List (Int×Int×Int)).length) (chk (apB p166.1.length ([false]:List Bool).length) (rec (p166.1++([false]:List Bool),w64 (p166.2.1 - 1),p175.2,p166.2.2.2++([(p172.1,Int.tmod (w64 ((w64 (p172.1+1))+p173.1)) (w64 (2+p102.1)),w64 (10+p175.1))]:List (Int×Int×Int))))))))) else some (p166.1,p166.2.2.1,p166.2.2.2))
def m_spec_l20Radial_l2 (x0:List Int) (p102:Int×Int):Nat → (List Bool×Int×Int×List (Int×Int×Int)) → Option ((List Bool×Int×List (Int×Int×Int))):=itr (m_spec_l20Radial_l2s x0 p102)
theorem e_spec_l20Radial_l2 (x0:List Int) (p102:Int×Int) (n:Nat) (p:(List Bool×Int×Int×List (Int×Int×Int))) : m_spec_l20Radial_l2 x0 p102 (n+1) p=m_spec_l20Radial_l2s x0 p102 (m_spec_l20Radial_l2 x0 p102 n) p:=rfl
def m_spec_l20Radial_l3s (p159:List Bool×Int×List (Int×Int×Int)) (rec:(List Bool×Int) → Option ((List Bool))) (p240:(List Bool×Int)):Option ((List Bool)):=(bif ltB p240.2 (p159.1.length:Int) then chk (ixB p240.2 p159.1.length) (rec (p240.1.set p240.2.toNat true,w64 (p240.2+1))) else some p240.1)
def m_spec_l20Radial_l3 (p159:List Bool×Int×List (Int×Int×Int)):Nat → (List Bool×Int) → Option ((List Bool)):=itr (m_spec_l20Radial_l3s p159)
def m_spec_l20Radial (x0:List Int) (x1:Int) (x2:Int):Option (Int×List (Int×Int×Int)×List Bool×List (Int×Int)×Int):=Option.bind (m_spec_l20Rd_pick x0 x1 6) (fun p102=>Option.bind (m_spec_l20Rd_pick x0 p102.2 2) (fun p106=>Option.bind (m_spec_l20Radial_l1 x0 p102 p106 FUEL (([]:List Bool),([]:List (Int×Int)),0,p106.2,([]:List (Int×Int×Int)))) (fun p107=>Option.bind (m_spec_l20Rd_pick x0 p107.2.2.1 4) (fun p158=>Option.bind (m_spec_l20Radial_l2 x0 p102 FUEL (p107.1,p158.1,p158.2,p107.2.2.2)) (fun p159=>Option.bind (m_spec_l20Rd_pick x0 p159.2.1 100) (fun p184=>chk (ixB 0 p107.2.1.length) (Option.bind (m_spec_l20Rd_pick x0 p184.2 2) (fun p186=>Option.bind (bif p186.1 == 0 then Option.bind (m_spec_l20Rd_pick x0 p186.2 (w64 ((w64 (2+p102.1)) - 1))) (fun p193=>Option.bind (m_spec_l20Rd_pick x0 p193.2 60) (fun p194=>chk (ixB (w64 (1+p193.1)) p107.2.1.length) (chk (ixB (w64 ((w64 (1+p193.1)) - 1)) p159.1.length) (some (p159.1.set ((w64 ((w64 (1+p193.1)) - 1)).toNat) false,(p107.2.1.set ((0:Int).toNat) (w64 (60+p184.1),(p107.2.1.getD ((0:Int).toNat) ((0,0):Int×Int)).2)).set ((w64 (1+p193.1)).toNat) (w64 (30+p194.1),((p107.2.1.set ((0:Int).toNat) (w64 (60+p184.1),(p107.2.1.getD ((0:Int).toNat) ((0,0):Int×Int)).2)).getD ((w64 (1+p193.1)).toNat) ((0,0):Int×Int)).2),p194.2))))) else some (p159.1,p107.2.1.set ((0:Int).toNat) (w64 (60+p184.1),(p107.2.1.getD ((0:Int).toNat) ((0,0):Int×Int)).2),p186.2)) (fun p187=>Option.bind (m_spec_l20Rd_odd x0 p187.2.2 x2) (fun p197=>Option.bind (bif p197.1 then Option.bind (m_spec_l20Rd_pick x0 p197.2 4) (fun p206=>Option.bind (bif p206.1 == 0 then chk (ixB (w64 ((w64 (2+p102.1)) - 1)) p107.2.1.length) (chk (ixB (w64 ((w64 (2+p102.1)) - 2)) p107.2.1.length) (some (p187.1,(p187.2.1.set ((w64 ((w64 (2+p102.1)) - 1)).toNat) (5,(p187.2.1.getD ((w64 ((w64 (2+p102.1)) - 1)).toNat) ((0,0):Int×Int)).2)).set ((w64 ((w64 (2+p102.1)) - 2)).toNat) (5,((p187.2.1.set ((w64 ((w64 (2+p102.1)) - 1)).toNat) (5,(p187.2.1.getD ((w64 ((w64 (2+p102.1)) - 1)).toNat) ((0,0):Int×Int)).2)).getD ((w64 ((w64 (2+p102.1)) - 2)).toNat) ((0,0):Int×Int)).2)))) else Option.bind (bif p206.1 == 1 then Option.bind (m_spec_l20Radial_l3 p159 FUEL (p187.1,0)) (fun p236=>some (p236,p187.2.1)) else Option.bind (bif p206.1 == 2 then chk (apB p187.1.length ([false]:List Bool).length) (some (p187.1++([false]:List Bool),p187.2.1)) else chk (slB 1 (p107.2.1.length:Int) p107.2.1.length) (some (p187.1,subL p187.2.1 1 (p107.2.1.length:Int)))) (fun p223=>some (p223.1,p223.2))) (fun p215=>some (p215.1,p215.2))) (fun p207=>some (p207.1,p207.2,p206.2))) else some (p187.1,p187.2.1,p197.2)) (fun p198=>some (w64 (2+p102.1),p159.2.2,p198.1,p198.2.1,p198.2.2))))))))))))
def m_spec_l20WorldDeed (x0:List Int) (x1:Int) (x2:Int) (x3:List (Int×Int×Int)) (x4:List (Int×Int)) (x5:List Bool) (x6:List Bool) (x7:List (Int×Int)) (x8:List Int):Option (Int×Int×Int×Int):=Option.bind (m_spec_l20Rd_pick x0 x1 12) (fun p103=>chk (ixB p103.1 ((([0,0,1,1,2,3,4,4,5,6,6,7]:List Int):List Int).length)) (Option.bind (m_spec_l20Rd_pick x0 p103.2 40) (fun p105=>Option.bind (m_spec_l20Rd_pick x0 p105.2 (w64 ((x5.length:Int)+1))) (fun p106=>Option.bind (m_spec_l20Rd_pick x0 p106.2 20) (fun p107=>Option.bind (m_spec_l20Rd_pick x0 p107.2 3) (fun p108=>Option.bind (bif ltB 0 (x7.length:Int) then Option.bind (m_spec_l20Rd_pick x0 p108.2 3) (fun p115=>some (p115.1 == 0,p115.2)) else some (false,p108.2)) (fun p111=>(bif p111.1 then Option.bind (m_spec_l20Rd_pick x0 p111.2 (x7.length:Int)) (fun p117=>chk (ixB p117.1 x7.length) (Option.bind (m_spec_l20Rd_pick x0 p117.2 3) (fun p120=>chk (ixB p120.1 ((([5,7,7]:List Int):List Int).length)) (some ((([5,7,7]:List Int).getD p120.1.toNat (0:Int)),(x7.getD p117.1.toNat ((0,0):Int×Int)).2,(x7.getD p117.1.toNat ((0,0):Int×Int)).1,p120.2))))) else some (w64 ((([0,0,1,1,2,3,4,4,5,6,6,7]:List Int).getD p103.1.toNat (0:Int))+(w64 ((w64 (Int.tdiv p105.1 39)) * 8))),w64 (p106.1 - (w64 (Int.tdiv p107.1 19))),p108.1,p111.2)))))))))
def m_spec_l1In (x0:Int) (x1:Int) (x2:Int):Option (Bool):=some ((leB x1 x0) && (leB x0 x2))
def m_spec_NetValid_l1s (x0:Int) (x1:List (Int×Int×Int)) (rec:Int → Option (Unit ⊕ Bool)) (p107:Int):Option (Unit ⊕ Bool):=(bif ltB p107 (x1.length:Int) then chk (ixB p107 x1.length) (Option.bind (m_spec_l1In ((x1.getD p107.toNat ((0,0,0):Int×Int×Int)).1) 0 (w64 (x0 - 1))) (fun p111=>Option.bind (gb (!(!p111)) (m_spec_l1In ((x1.getD p107.toNat ((0,0,0):Int×Int×Int)).2.1) 0 (w64 (x0 - 1)))) (fun p112=>Option.bind (gb (!(((!p111) || (!p112)) || (((x1.getD p107.toNat ((0,0,0):Int×Int×Int)).1) == ((x1.getD p107.toNat ((0,0,0):Int×Int×Int)).2.1)))) (m_spec_l1In ((x1.getD p107.toNat ((0,0,0):Int×Int×Int)).2.2) 1 999)) (fun p113=>(bif (((!p111) || (!p112)) || (((x1.getD p107.toNat ((0,0,0):Int×Int×Int)).1) == ((x1.getD p107.toNat ((0,0,0):Int×Int×Int)).2.1))) || (!p113) then some (Sum.inr false) else rec (w64 (p107+1))))))) else some (Sum.inl ()))
def m_spec_NetValid_l1 (x0:Int) (x1:List (Int×Int×Int)):Nat → Int → Option (Unit ⊕ Bool):=itr (m_spec_NetValid_l1s x0 x1)
theorem e_spec_NetValid_l1 (x0:Int) (x1:List (Int×Int×Int)) (n:Nat) (p:Int) : m_spec_NetValid_l1 x0 x1 (n+1) p=m_spec_NetValid_l1s x0 x1 (m_spec_NetValid_l1 x0 x1 n) p:=rfl
def m_spec_NetValid (x0:Int) (x1:List (Int×Int×Int)):Option (Bool):=Option.bind (m_spec_l1In x0 1 8) (fun p102=>(bif (!p102) || (ltB 10 (x1.length:Int)) then some false else Option.bind (m_spec_NetValid_l1 x0 x1 FUEL 0:Option (Unit ⊕ Bool)) (Sum.elim (fun (p104:Unit)=>some true) (fun (r:Bool)=>some r))))
def m_spec_BusesValid_l1s (x2:List (Int×Int)) (rec:Int → Option (Unit ⊕ Bool)) (p105:Int):Option (Unit ⊕ Bool):=(bif ltB p105 (x2.length:Int) then chk (ixB p105 x2.length) (Option.bind (m_spec_l1In ((x2.getD p105.toNat ((0,0):Int×Int)).1) 0 999) (fun p108=>chk (!(!(!p108)) || ixB p105 x2.length) (Option.bind (gb (!(!p108)) (m_spec_l1In ((x2.getD p105.toNat ((0,0):Int×Int)).2) 0 999)) (fun p110=>(bif (!p108) || (!p110) then some (Sum.inr false) else rec (w64 (p105+1))))))) else some (Sum.inl ()))
def m_spec_BusesValid_l1 (x2:List (Int×Int)):Nat → Int → Option (Unit ⊕ Bool):=itr (m_spec_BusesValid_l1s x2)
theorem e_spec_BusesValid_l1 (x2:List (Int×Int)) (n:Nat) (p:Int) : m_spec_BusesValid_l1 x2 (n+1) p=m_spec_BusesValid_l1s x2 (m_spec_BusesValid_l1 x2 n) p:=rfl
def m_spec_BusesValid (x0:Int) (x1:List (Int×Int×Int)) (x2:List (Int×Int)):Option (Bool):=Option.bind (m_spec_BusesValid_l1 x2 FUEL 0:Option (Unit ⊕ Bool)) (Sum.elim (fun (p102:Unit)=>Option.bind (m_spec_NetValid x0 x1) (fun p112=>some (p112 && ((x2.length:Int) == x0)))) (fun (r:Bool)=>some r))
def m_spec_l12Find_l1s (x0:List (Int×Int)) (x1:Int) (x2:Int) (rec:Int → Option (Unit ⊕ Int)) (p105:Int):Option (Unit ⊕ Int):=(bif ltB p105 (x0.length:Int) then chk (ixB p105 x0.length) ((bif (((x0.getD p105.toNat ((0,0):Int×Int)).1) == x1) && (((x0.getD p105.toNat ((0,0):Int×Int)).2) == x2) then some (Sum.inr p105) else rec (w64 (p105+1)))) else some (Sum.inl ()))
def m_spec_l12Find_l1 (x0:List (Int×Int)) (x1:Int) (x2:Int):Nat → Int → Option (Unit ⊕ Int):=itr (m_spec_l12Find_l1s x0 x1 x2)
theorem e_spec_l12Find_l1 (x0:List (Int×Int)) (x1:Int) (x2:Int) (n:Nat) (p:Int) : m_spec_l12Find_l1 x0 x1 x2 (n+1) p=m_spec_l12Find_l1s x0 x1 x2 (m_spec_l12Find_l1 x0 x1 x2 n) p:=rfl
def m_spec_l12Find (x0:List (Int×Int)) (x1:Int) (x2:Int):Option (Int):=Option.bind (m_spec_l12Find_l1 x0 x1 x2 FUEL 0:Option (Unit ⊕ Int)) (Sum.elim (fun (p102:Unit)=>some (-1)) (fun (r:Int)=>some r))
def m_spec_WorkValid_l1s (x0:List Bool) (x1:List Bool) (rec:Int → Option (Unit ⊕ Bool)) (p107:Int):Option (Unit ⊕ Bool):=(bif ltB p107 (x0.length:Int) then chk (ixB p107 x0.length) (chk (!(x0.getD p107.toNat false) || ixB p107 x1.length) ((bif (x0.getD p107.toNat false) && (x1.getD p107.toNat false) then some (Sum.inr false) else rec (w64 (p107+1))))) else some (Sum.inl ()))
def m_spec_WorkValid_l1 (x0:List Bool) (x1:List Bool):Nat → Int → Option (Unit ⊕ Bool):=itr (m_spec_WorkValid_l1s x0 x1)
theorem e_spec_WorkValid_l1 (x0:List Bool) (x1:List Bool) (n:Nat) (p:Int) : m_spec_WorkValid_l1 x0 x1 (n+1) p=m_spec_WorkValid_l1s x0 x1 (m_spec_WorkValid_l1 x0 x1 n) p:=rfl
def m_spec_WorkValid_l2s (x0:List Bool) (x1:List Bool) (x2:List (Int×Int)) (rec:Int → Option (Unit ⊕ Bool)) (p115:Int):Option (Unit ⊕ Bool):=(bif ltB p115 (x2.length:Int) then chk (ixB p115 x2.length) (Option.bind (m_spec_l1In ((x2.getD p115.toNat ((0,0):Int×Int)).1) 0 9) (fun p119=>Option.bind (gb (!(!p119)) (m_spec_l1In ((x2.getD p115.toNat ((0,0):Int×Int)).2) 0 (w64 ((x0.length:Int) - 1)))) (fun p120=>chk (!(!((!p119) || (!p120))) || ixB ((x2.getD p115.toNat ((0,0):Int×Int)).2) x1.length) (Option.bind (gb (!(((!p119) || (!p120)) || (!(x1.getD (((x2.getD p115.toNat ((0,0):Int×Int)).2).toNat) false)))) (m_spec_l12Find x2 ((x2.getD p115.toNat ((0,0):Int×Int)).1) ((x2.getD p115.toNat ((0,0):Int×Int)).2))) (fun p122=>(bif (((!p119) || (!p120)) || (!(x1.getD (((x2.getD p115.toNat ((0,0):Int×Int)).2).toNat) false))) || (ltB p122 p115) then some (Sum.inr false) else rec (w64 (p115+1)))))))) else some (Sum.inl ()))
def m_spec_WorkValid_l2 (x0:List Bool) (x1:List Bool) (x2:List (Int×Int)):Nat → Int → Option (Unit ⊕ Bool):=itr (m_spec_WorkValid_l2s x0 x1 x2)
theorem e_spec_WorkValid_l2 (x0:List Bool) (x1:List Bool) (x2:List (Int×Int)) (n:Nat) (p:Int) : m_spec_WorkValid_l2 x0 x1 x2 (n+1) p=m_spec_WorkValid_l2s x0 x1 x2 (m_spec_WorkValid_l2 x0 x1 x2 n) p:=rfl
def m_spec_WorkValid (x0:List Bool) (x1:List Bool) (x2:List (Int×Int)):Option (Bool):=Option.bind (m_spec_l1In (x0.length:Int) 1 10) (fun p102=>(bif ((!p102) || ((x0.length:Int) != (x1.length:Int))) || (ltB 6 (x2.length:Int)) then some false else Option.bind (m_spec_WorkValid_l1 x0 x1 FUEL 0:Option (Unit ⊕ Bool)) (Sum.elim (fun (p104:Unit)=>Option.bind (m_spec_WorkValid_l2 x0 x1 x2 FUEL 0:Option (Unit ⊕ Bool)) (Sum.elim (fun (p112:Unit)=>some true) (fun (r:Bool)=>some r))) (fun (r:Bool)=>some r))))
def m_spec_StateValid (x0:Int) (x1:List (Int×Int×Int)) (x2:List Bool):Option (Bool):=Option.bind (m_spec_NetValid x0 x1) (fun p102=>some (p102 && ((x2.length:Int) == (x1.length:Int))))
def m_spec_l5Ok (x0:Int) (x1:List (Int×Int×Int)) (x2:List Bool) (x3:List (Int×Int)):Option (Bool):=Option.bind (m_spec_StateValid x0 x1 x2) (fun p102=>Option.bind (gb p102 (m_spec_BusesValid x0 x1 x3)) (fun p103=>some (p102 && p103)))
def m_spec_l2Copy (x0:List Bool):Option (List Bool):=chk (apB ([]:List Bool).length x0.length) (some (([]:List Bool)++x0))
def m_spec_SwitchLine (x0:Int) (x1:List (Int×Int×Int)) (x2:List Bool) (x3:Int) (x4:Bool):Option (List Bool×Bool):=Option.bind (m_spec_StateValid x0 x1 x2) (fun p102=>(bif p102 then Option.bind (m_spec_l2Copy x2) (fun p105=>Option.bind (m_spec_l1In x3 0 (w64 ((x2.length:Int) - 1))) (fun p109=>(bif p109 then chk (ixB x3 p105.length) (some (p105.set x3.toNat x4,true)) else some (p105,false)))) else some (([]:List Bool),false)))
def m_spec_l3Reach_l2s (x0:Int) (x1:List (Int×Int×Int)) (x2:List Bool) (rec:(List Bool×Int) → Option ((List Bool))) (p116:(List Bool×Int)):Option ((List Bool)):=(bif ltB p116.2 (x1.length:Int) then chk (ixB p116.2 x1.length) (chk (ixB p116.2 x2.length) (chk (!(x2.getD p116.2.toNat false) || ixB ((x1.getD p116.2.toNat ((0,0,0):Int×Int×Int)).1) x0.toNat) (chk (!((x2.getD p116.2.toNat false) && (!(p116.1.getD (((x1.getD p116.2.toNat ((0,0,0):Int×Int×Int)).1).toNat) false))) || ixB ((x1.getD p116.2.toNat ((0,0,0):Int×Int×Int)).2.1) x0.toNat) (Option.bind (bif (x2.getD p116.2.toNat false) && ((p116.1.getD (((x1.getD p116.2.toNat ((0,0,0):Int×Int×Int)).1).toNat) false) || (p116.1.getD (((x1.getD p116.2.toNat ((0,0,0):Int×Int×Int)).2.1).toNat) false)) then chk (ixB ((x1.getD p116.2.toNat ((0,0,0):Int×Int×Int)).1) x0.toNat) (chk (ixB ((x1.getD p116.2.toNat ((0,0,0):Int×Int×Int)).2.1) x0.toNat) (some ((p116.1.set (((x1.getD p116.2.toNat ((0,0,0):Int×Int×Int)).1).toNat) true).set (((x1.getD p116.2.toNat ((0,0,0):Int×Int×Int)).2.1).toNat) true))) else some p116.1) (fun p124=>rec (p124,w64 (p116.2+1))))))) else some p116.1)
def m_spec_l3Reach_l2 (x0:Int) (x1:List (Int×Int×Int)) (x2:List Bool):Nat → (List Bool×Int) → Option ((List Bool)):=itr (m_spec_l3Reach_l2s x0 x1 x2)
theorem e_spec_l3Reach_l2 (x0:Int) (x1:List (Int×Int×Int)) (x2:List Bool) (n:Nat) (p:(List Bool×Int)) : m_spec_l3Reach_l2 x0 x1 x2 (n+1) p=m_spec_l3Reach_l2s x0 x1 x2 (m_spec_l3Reach_l2 x0 x1 x2 n) p:=rfl
def m_spec_l3Reach_l1s (x0:Int) (x1:List (Int×Int×Int)) (x2:List Bool) (rec:(List Bool×Int) → Option ((List Bool))) (p109:(List Bool×Int)):Option ((List Bool)):=(bif ltB p109.2 x0 then Option.bind (m_spec_l3Reach_l2 x0 x1 x2 FUEL (p109.1,0)) (fun p112=>rec (p112,w64 (p109.2+1))) else some p109.1)
def m_spec_l3Reach_l1 (x0:Int) (x1:List (Int×Int×Int)) (x2:List Bool):Nat → (List Bool×Int) → Option ((List Bool)):=itr (m_spec_l3Reach_l1s x0 x1 x2)
theorem e_spec_l3Reach_l1 (x0:Int) (x1:List (Int×Int×Int)) (x2:List Bool) (n:Nat) (p:(List Bool×Int)) : m_spec_l3Reach_l1 x0 x1 x2 (n+1) p=m_spec_l3Reach_l1s x0 x1 x2 (m_spec_l3Reach_l1 x0 x1 x2 n) p:=rfl
def m_spec_l3Reach (x0:Int) (x1:List (Int×Int×Int)) (x2:List Bool) (x3:Int):Option (List Bool):=chk (mkB x0) (chk (ixB x3 x0.toNat) (Option.bind (m_spec_l3Reach_l1 x0 x1 x2 FUEL ((List.replicate x0.toNat false).set x3.toNat true,0)) (fun p105=>some p105)))
def m_spec_Reached_l1s (x0:Int) (p106:List Bool) (rec:(List Int×Int) → Option ((List Int))) (p115:(List Int×Int)):Option ((List Int)):=(bif ltB p115.2 x0 then chk (ixB p115.2 p106.length) (Option.bind (bif p106.getD p115.2.toNat false then chk (apB p115.1.length ([p115.2]:List Int).length) (some (p115.1++([p115.2]:List Int))) else some p115.1) (fun p120=>rec (p120,w64 (p115.2+1)))) else some p115.1)
def m_spec_Reached_l1 (x0:Int) (p106:List Bool):Nat → (List Int×Int) → Option ((List Int)):=itr (m_spec_Reached_l1s x0 p106)
theorem e_spec_Reached_l1 (x0:Int) (p106:List Bool) (n:Nat) (p:(List Int×Int)) : m_spec_Reached_l1 x0 p106 (n+1) p=m_spec_Reached_l1s x0 p106 (m_spec_Reached_l1 x0 p106 n) p:=rfl
def m_spec_Reached (x0:Int) (x1:List (Int×Int×Int)) (x2:List Bool) (x3:Int):Option (List Int):=Option.bind (m_spec_StateValid x0 x1 x2) (fun p103=>Option.bind (gb (!(!p103)) (m_spec_l1In x3 0 (w64 (x0 - 1)))) (fun p104=>(bif (!p103) || (!p104) then some ([]:List Int) else Option.bind (m_spec_l3Reach x0 x1 x2 x3) (fun p106=>Option.bind (m_spec_Reached_l1 x0 p106 FUEL (([]:List Int),0)) (fun p110=>some p110)))))
def m_spec_l1Has_l1s (x0:List Int) (x1:Int) (rec:Int → Option (Unit ⊕ Bool)) (p104:Int):Option (Unit ⊕ Bool):=(bif ltB p104 (x0.length:Int) then chk (ixB p104 x0.length) ((bif (x0.getD p104.toNat (0:Int)) == x1 then some (Sum.inr true) else rec (w64 (p104+1)))) else some (Sum.inl ()))
def m_spec_l1Has_l1 (x0:List Int) (x1:Int):Nat → Int → Option (Unit ⊕ Bool):=itr (m_spec_l1Has_l1s x0 x1)
theorem e_spec_l1Has_l1 (x0:List Int) (x1:Int) (n:Nat) (p:Int) : m_spec_l1Has_l1 x0 x1 (n+1) p=m_spec_l1Has_l1s x0 x1 (m_spec_l1Has_l1 x0 x1 n) p:=rfl
def m_spec_l1Has (x0:List Int) (x1:Int):Option (Bool):=Option.bind (m_spec_l1Has_l1 x0 x1 FUEL 0:Option (Unit ⊕ Bool)) (Sum.elim (fun (p101:Unit)=>some false) (fun (r:Bool)=>some r))
def m_spec_SameIsland (x0:Int) (x1:List (Int×Int×Int)) (x2:List Bool) (x3:Int) (x4:Int):Option (Bool):=Option.bind (m_spec_Reached x0 x1 x2 x3) (fun p102=>Option.bind (m_spec_l1Has p102 x4) (fun p106=>some p106))
def m_spec_CycleLines_l1s (x0:Int) (x1:List (Int×Int×Int)) (x2:List Bool) (rec:(List Int×Int) → Option ((List Int))) (p108:(List Int×Int)):Option ((List Int)):=Option.bind (gb (ltB p108.2 (x2.length:Int)) (m_spec_StateValid x0 x1 x2)) (fun p111=>(bif (ltB p108.2 (x2.length:Int)) && p111 then Option.bind (m_spec_SwitchLine x0 x1 x2 p108.2 false) (fun p113=>chk (ixB p108.2 x2.length) (chk (!(x2.getD p108.2.toNat false) || ixB p108.2 x1.length) (chk (!(x2.getD p108.2.toNat false) || ixB p108.2 x1.length) (Option.bind (gb (x2.getD p108.2.toNat false) (m_spec_SameIsland x0 x1 p113.1 ((x1.getD p108.2.toNat ((0,0,0):Int×Int×Int)).1) ((x1.getD p108.2.toNat ((0,0,0):Int×Int×Int)).2.1))) (fun p120=>Option.bind (bif (x2.getD p108.2.toNat false) && p120 then chk (apB p108.1.length ([p108.2]:List Int).length) (some (p108.1++([p108.2]:List Int))) else some p108.1) (fun p121=>rec (p121,w64 (p108.2+1)))))))) else some p108.1))
def m_spec_CycleLines_l1 (x0:Int) (x1:List (Int×Int×Int)) (x2:List Bool):Nat → (List Int×Int) → Option ((List Int)):=itr (m_spec_CycleLines_l1s x0 x1 x2)
theorem e_spec_CycleLines_l1 (x0:Int) (x1:List (Int×Int×Int)) (x2:List Bool) (n:Nat) (p:(List Int×Int)) : m_spec_CycleLines_l1 x0 x1 x2 (n+1) p=m_spec_CycleLines_l1s x0 x1 x2 (m_spec_CycleLines_l1 x0 x1 x2 n) p:=rfl
def m_spec_CycleLines (x0:Int) (x1:List (Int×Int×Int)) (x2:List Bool):Option (List Int):=Option.bind (m_spec_CycleLines_l1 x0 x1 x2 FUEL (([]:List Int),0)) (fun p103=>some p103)
def m_spec_HasCycle (x0:Int) (x1:List (Int×Int×Int)) (x2:List Bool):Option (Bool):=Option.bind (m_spec_CycleLines x0 x1 x2) (fun p102=>some (ltB 0 (p102.length:Int)))
def m_spec_Radial_l2s (x0:Int) (x1:List (Int×Int×Int)) (x2:List Bool) (x3:List (Int×Int)) (p108:Int) (rec:Int → Option (Unit ⊕ Bool)) (p113:Int):Option (Unit ⊕ Bool):=(bif ltB p113 p108 then chk (ixB p108 x3.length) (chk (!(ltB 0 ((x3.getD p108.toNat ((0,0):Int×Int)).1)) || ixB p113 x3.length) (Option.bind (gb ((ltB 0 ((x3.getD p108.toNat ((0,0):Int×Int)).1)) && (ltB 0 ((x3.getD p113.toNat ((0,0):Int×Int)).1))) (m_spec_SameIsland x0 x1 x2 p113 p108)) (fun p117=>(bif ((ltB 0 ((x3.getD p108.toNat ((0,0):Int×Int)).1)) && (ltB 0 ((x3.getD p113.toNat ((0,0):Int×Int)).1))) && p117 then some (Sum.inr false) else rec (w64 (p113+1)))))) else some (Sum.inl ()))
def m_spec_Radial_l2 (x0:Int) (x1:List (Int×Int×Int)) (x2:List Bool) (x3:List (Int×Int)) (p108:Int):Nat → Int → Option (Unit ⊕ Bool):=itr (m_spec_Radial_l2s x0 x1 x2 x3 p108)
theorem e_spec_Radial_l2 (x0:Int) (x1:List (Int×Int×Int)) (x2:List Bool) (x3:List (Int×Int)) (p108:Int) (n:Nat) (p:Int) : m_spec_Radial_l2 x0 x1 x2 x3 p108 (n+1) p=m_spec_Radial_l2s x0 x1 x2 x3 p108 (m_spec_Radial_l2 x0 x1 x2 x3 p108 n) p:=rfl
def m_spec_Radial_l1s (x0:Int) (x1:List (Int×Int×Int)) (x2:List Bool) (x3:List (Int×Int)) (rec:Int → Option (Unit ⊕ Bool)) (p108:Int):Option (Unit ⊕ Bool):=(bif ltB p108 x0 then Option.bind (m_spec_Radial_l2 x0 x1 x2 x3 p108 FUEL 0:Option (Unit ⊕ Bool)) (Sum.elim (fun (p110:Unit)=>rec (w64 (p108+1))) (fun (r:Bool)=>some (Sum.inr r))) else some (Sum.inl ()))
def m_spec_Radial_l1 (x0:Int) (x1:List (Int×Int×Int)) (x2:List Bool) (x3:List (Int×Int)):Nat → Int → Option (Unit ⊕ Bool):=itr (m_spec_Radial_l1s x0 x1 x2 x3)
theorem e_spec_Radial_l1 (x0:Int) (x1:List (Int×Int×Int)) (x2:List Bool) (x3:List (Int×Int)) (n:Nat) (p:Int) : m_spec_Radial_l1 x0 x1 x2 x3 (n+1) p=m_spec_Radial_l1s x0 x1 x2 x3 (m_spec_Radial_l1 x0 x1 x2 x3 n) p:=rfl
def m_spec_Radial (x0:Int) (x1:List (Int×Int×Int)) (x2:List Bool) (x3:List (Int×Int)):Option (Bool):=Option.bind (m_spec_l5Ok x0 x1 x2 x3) (fun p102=>Option.bind (gb (!(!p102)) (m_spec_HasCycle x0 x1 x2)) (fun p103=>(bif (!p102) || p103 then some false else Option.bind (m_spec_Radial_l1 x0 x1 x2 x3 FUEL 0:Option (Unit ⊕ Bool)) (Sum.elim (fun (p105:Unit)=>some true) (fun (r:Bool)=>some r)))))
def m_spec_WorldValid_l1s (x3:List Bool) (x6:List Int) (rec:Int → Option (Unit ⊕ Bool)) (p108:Int):Option (Unit ⊕ Bool):=(bif ltB p108 (x6.length:Int) then chk (ixB p108 x6.length) (Option.bind (m_spec_l1In (x6.getD p108.toNat (0:Int)) 0 (w64 ((x3.length:Int) - 1))) (fun p111=>chk (!((!(!p111)) && (ltB 0 p108)) || ixB (w64 (p108 - 1)) x6.length) (chk (!((!(!p111)) && (ltB 0 p108)) || ixB p108 x6.length) (chk (!(!((!p111) || ((ltB 0 p108) && (leB (x6.getD p108.toNat (0:Int)) (x6.getD ((w64 (p108 - 1)).toNat) (0:Int)))))) || ixB p108 x6.length) (chk (!(!((!p111) || ((ltB 0 p108) && (leB (x6.getD p108.toNat (0:Int)) (x6.getD ((w64 (p108 - 1)).toNat) (0:Int)))))) || ixB (x6.getD p108.toNat (0:Int)) x3.length) ((bif ((!p111) || ((ltB 0 p108) && (leB (x6.getD p108.toNat (0:Int)) (x6.getD ((w64 (p108 - 1)).toNat) (0:Int))))) || (x3.getD ((x6.getD p108.toNat (0:Int)).toNat) false) then some (Sum.inr false) else rec (w64 (p108+1))))))))) else some (Sum.inl ()))
def m_spec_WorldValid_l1 (x3:List Bool) (x6:List Int):Nat → Int → Option (Unit ⊕ Bool):=itr (m_spec_WorldValid_l1s x3 x6)
theorem e_spec_WorldValid_l1 (x3:List Bool) (x6:List Int) (n:Nat) (p:Int) : m_spec_WorldValid_l1 x3 x6 (n+1) p=m_spec_WorldValid_l1s x3 x6 (m_spec_WorldValid_l1 x3 x6 n) p:=rfl
def m_spec_WorldValid (x0:Int) (x1:List (Int×Int×Int)) (x2:List (Int×Int)) (x3:List Bool) (x4:List Bool) (x5:List (Int×Int)) (x6:List Int):Option (Bool):=Option.bind (m_spec_BusesValid x0 x1 x2) (fun p102=>Option.bind (gb (!(!p102)) (m_spec_WorkValid x3 x4 x5)) (fun p103=>(bif ((!p102) || (!p103)) || ((x3.length:Int) != (x1.length:Int)) then some false else Option.bind (m_spec_WorldValid_l1 x3 x6 FUEL 0:Option (Unit ⊕ Bool)) (Sum.elim (fun (p105:Unit)=>Option.bind (m_spec_Radial x0 x1 x3 x2) (fun p117=>some p117)) (fun (r:Bool)=>some r)))))
def m_spec_l12Copy (x0:List Bool) (x1:List Bool) (x2:List (Int×Int)):Option (List Bool×List Bool×List (Int×Int)):=Option.bind (m_spec_l2Copy x0) (fun p103=>Option.bind (m_spec_l2Copy x1) (fun p107=>chk (apB ([]:List (Int×Int)).length x2.length) (some (p103,p107,[]++x2))))
def m_spec_l39Copy (x0:Int) (x1:List (Int×Int×Int)) (x2:List (Int×Int)) (x3:List Bool) (x4:List Bool) (x5:List (Int×Int)) (x6:List Int):Option (Int×List (Int×Int×Int)×List (Int×Int)×List Bool×List Bool×List (Int×Int)×List Int):=chk (apB ([]:List (Int×Int×Int)).length x1.length) (chk (apB ([]:List (Int×Int)).length x2.length) (Option.bind (m_spec_l12Copy x3 x4 x5) (fun p109=>chk (apB ([]:List Int).length x6.length) (some (x0,[]++x1,[]++x2,p109.1,p109.2.1,p109.2.2,[]++x6)))))
def m_spec_WorkHeld_l1s (x0:List Bool) (x1:List Bool) (x2:List (Int×Int)) (x3:Int) (rec:(List Int×Int) → Option ((List Int))) (p108:(List Int×Int)):Option ((List Int)):=Option.bind (gb (ltB p108.2 (x2.length:Int)) (m_spec_WorkValid x0 x1 x2)) (fun p111=>(bif (ltB p108.2 (x2.length:Int)) && p111 then chk (ixB p108.2 x2.length) (Option.bind (bif ((x2.getD p108.2.toNat ((0,0):Int×Int)).2) == x3 then chk (ixB p108.2 x2.length) (chk (apB p108.1.length ([(x2.getD p108.2.toNat ((0,0):Int×Int)).1]:List Int).length) (some (p108.1++([(x2.getD p108.2.toNat ((0,0):Int×Int)).1]:List Int)))) else some p108.1) (fun p114=>rec (p114,w64 (p108.2+1)))) else some p108.1))
def m_spec_WorkHeld_l1 (x0:List Bool) (x1:List Bool) (x2:List (Int×Int)) (x3:Int):Nat → (List Int×Int) → Option ((List Int)):=itr (m_spec_WorkHeld_l1s x0 x1 x2 x3)
theorem e_spec_WorkHeld_l1 (x0:List Bool) (x1:List Bool) (x2:List (Int×Int)) (x3:Int) (n:Nat) (p:(List Int×Int)) : m_spec_WorkHeld_l1 x0 x1 x2 x3 (n+1) p=m_spec_WorkHeld_l1s x0 x1 x2 x3 (m_spec_WorkHeld_l1 x0 x1 x2 x3 n) p:=rfl
def m_spec_WorkHeld (x0:List Bool) (x1:List Bool) (x2:List (Int×Int)) (x3:Int):Option (List Int):=Option.bind (m_spec_WorkHeld_l1 x0 x1 x2 x3 FUEL (([]:List Int),0)) (fun p103=>some p103)
def m_spec_l39Mend_l1s (x6:List Int) (x7:Int) (rec:(Int×List Int) → Option ((List Int))) (p129:(Int×List Int)):Option ((List Int)):=(bif ltB p129.1 (x6.length:Int) then chk (ixB p129.1 x6.length) (Option.bind (bif (x6.getD p129.1.toNat (0:Int)) != x7 then chk (ixB p129.1 x6.length) (chk (apB p129.2.length ([(x6.getD p129.1.toNat (0:Int))]:List Int).length) (some (p129.2++([(x6.getD p129.1.toNat (0:Int))]:List Int)))) else some p129.2) (fun p134=>rec (w64 (p129.1+1),p134))) else some p129.2)
def m_spec_l39Mend_l1 (x6:List Int) (x7:Int):Nat → (Int×List Int) → Option ((List Int)):=itr (m_spec_l39Mend_l1s x6 x7)
theorem e_spec_l39Mend_l1 (x6:List Int) (x7:Int) (n:Nat) (p:(Int×List Int)) : m_spec_l39Mend_l1 x6 x7 (n+1) p=m_spec_l39Mend_l1s x6 x7 (m_spec_l39Mend_l1 x6 x7 n) p:=rfl
def m_spec_l39Mend (x0:Int) (x1:List (Int×Int×Int)) (x2:List (Int×Int)) (x3:List Bool) (x4:List Bool) (x5:List (Int×Int)) (x6:List Int) (x7:Int):Option (Int×List (Int×Int×Int)×List (Int×Int)×List Bool×List Bool×List (Int×Int)×List Int):=Option.bind (m_spec_l39Copy x0 x1 x2 x3 x4 x5 x6) (fun p103=>Option.bind (m_spec_l39Mend_l1 x6 x7 FUEL (0,([]:List Int))) (fun p124=>some (p103.1,p103.2.1,p103.2.2.1,p103.2.2.2.1,p103.2.2.2.2.1,p103.2.2.2.2.2.1,p124)))
def m_spec_l39Break_l1s (x3:List Bool) (x6:List Int) (x7:Int) (rec:(Int×List Int) → Option ((List Int))) (p130:(Int×List Int)):Option ((List Int)):=(bif ltB p130.1 (x3.length:Int) then Option.bind (gb (!(p130.1 == x7)) (m_spec_l1Has x6 p130.1)) (fun p134=>Option.bind (bif (p130.1 == x7) || p134 then chk (apB p130.2.length ([p130.1]:List Int).length) (some (p130.2++([p130.1]:List Int))) else some p130.2) (fun p135=>rec (w64 (p130.1+1),p135))) else some p130.2)
def m_spec_l39Break_l1 (x3:List Bool) (x6:List Int) (x7:Int):Nat → (Int×List Int) → Option ((List Int)):=itr (m_spec_l39Break_l1s x3 x6 x7)
theorem e_spec_l39Break_l1 (x3:List Bool) (x6:List Int) (x7:Int) (n:Nat) (p:(Int×List Int)) : m_spec_l39Break_l1 x3 x6 x7 (n+1) p=m_spec_l39Break_l1s x3 x6 x7 (m_spec_l39Break_l1 x3 x6 x7 n) p:=rfl
def m_spec_l39Break (x0:Int) (x1:List (Int×Int×Int)) (x2:List (Int×Int)) (x3:List Bool) (x4:List Bool) (x5:List (Int×Int)) (x6:List Int) (x7:Int):Option (Int×List (Int×Int×Int)×List (Int×Int)×List Bool×List Bool×List (Int×Int)×List Int):=Option.bind (m_spec_l39Copy x0 x1 x2 x3 x4 x5 x6) (fun p103=>chk (ixB x7 p103.2.2.2.1.length) (Option.bind (m_spec_l39Break_l1 x3 x6 x7 FUEL (0,([]:List Int))) (fun p125=>some (p103.1,p103.2.1,p103.2.2.1,p103.2.2.2.1.set x7.toNat false,p103.2.2.2.2.1,p103.2.2.2.2.2.1,p125))))
def m_spec_l12May (x0:List Bool) (x1:List Bool) (x2:List (Int×Int)) (x3:Int) (x4:Int) (x5:Int):Option (Bool):=Option.bind (m_spec_l12Find x2 x5 x4) (fun p103=>(bif x3 == 0 then chk (ixB x4 x0.length) (chk (!(!(x0.getD x4.toNat false)) || ixB x4 x1.length) (some ((!(x0.getD x4.toNat false)) && (!(x1.getD x4.toNat false))))) else (bif x3 == 1 then chk (ixB x4 x0.length) (some (x0.getD x4.toNat false)) else (bif x3 == 2 then chk (ixB x4 x0.length) (chk (!(!(x0.getD x4.toNat false)) || ixB x4 x1.length) (some ((!(x0.getD x4.toNat false)) && (!(x1.getD x4.toNat false))))) else (bif x3 == 3 then Option.bind (chk (ixB x4 x1.length) ((bif x1.getD x4.toNat false then Option.bind (m_spec_WorkHeld x0 x1 x2 x4) (fun p117=>some ((p117.length:Int) == 0)) else some false))) (fun p112=>some p112) else (bif x3 == 4 then chk (ixB x4 x1.length) (Option.bind (gb (x1.getD x4.toNat false) (m_spec_l1In x5 0 9)) (fun p111=>some ((((x1.getD x4.toNat false) && p111) && (ltB p103 0)) && (ltB (x2.length:Int) 6)))) else (bif x3 == 5 then some (leB 0 p103) else some false)))))))
def m_spec_WorkDo (x0:List Bool) (x1:List Bool) (x2:List (Int×Int)) (x3:Int) (x4:Int) (x5:Int):Option (List Bool×List Bool×List (Int×Int)×Bool):=Option.bind (m_spec_WorkValid x0 x1 x2) (fun p104=>(bif p104 then Option.bind (m_spec_l12Copy x0 x1 x2) (fun p106=>Option.bind (m_spec_l1In x4 0 (w64 ((x0.length:Int) - 1))) (fun p117=>Option.bind (gb (!(!p117)) (m_spec_l12May x0 x1 x2 x3 x4 x5)) (fun p118=>(bif (!p117) || (!p118) then some (p106.1,p106.2.1,p106.2.2,false) else Option.bind (bif x3 == 0 then chk (ixB x4 p106.1.length) (some (p106.1.set x4.toNat true,p106.2.1,p106.2.2)) else Option.bind (bif x3 == 1 then chk (ixB x4 p106.1.length) (some (p106.1.set x4.toNat false,p106.2.1,p106.2.2)) else Option.bind (bif x3 == 2 then chk (ixB x4 p106.2.1.length) (some (p106.2.1.set x4.toNat true,p106.2.2)) else Option.bind (bif x3 == 3 then chk (ixB x4 p106.2.1.length) (some (p106.2.1.set x4.toNat false,p106.2.2)) else Option.bind (bif x3 == 4 then chk (apB p106.2.2.length ([(x5,x4)]:List (Int×Int)).length) (some (p106.2.2++([(x5,x4)]:List (Int×Int)))) else Option.bind (m_spec_l12Find x2 x5 x4) (fun p156=>chk (slB 0 p156 p106.2.2.length) (chk (slB (w64 (p156+1)) (x2.length:Int) x2.length) (chk (apB (subL p106.2.2 0 p156).length (subL x2 (w64 (p156+1)) (x2.length:Int)).length) (some ((subL p106.2.2 0 p156)++(subL x2 (w64 (p156+1)) (x2.length:Int)))))))) (fun p150=>some (p106.2.1,p150))) (fun p143=>some (p143.1,p143.2))) (fun p136=>some (p106.1,p136.1,p136.2))) (fun p128=>some (p128.1,p128.2.1,p128.2.2))) (fun p120=>some (p120.1,p120.2.1,p120.2.2,true)))))) else some (([]:List Bool),([]:List Bool),([]:List (Int×Int)),false)))
def m_spec_WorldDo (x0:Int) (x1:List (Int×Int×Int)) (x2:List (Int×Int)) (x3:List Bool) (x4:List Bool) (x5:List (Int×Int)) (x6:List Int) (x7:Int) (x8:Int) (x9:Int):Option (Int×List (Int×Int×Int)×List (Int×Int)×List Bool×List Bool×List (Int×Int)×List Int×Bool):=Option.bind (m_spec_WorldValid x0 x1 x2 x3 x4 x5 x6) (fun p104=>(bif p104 then Option.bind (m_spec_l1In x8 0 (w64 ((x3.length:Int) - 1))) (fun p106=>(bif p106 then Option.bind (m_spec_l1Has x6 x8) (fun p127=>(bif (x7 == 6) && (!p127) then Option.bind (m_spec_l39Break x0 x1 x2 x3 x4 x5 x6 x8) (fun p213=>some (p213.1,p213.2.1,p213.2.2.1,p213.2.2.2.1,p213.2.2.2.2.1,p213.2.2.2.2.2.1,p213.2.2.2.2.2.2,true)) else Option.bind (bif (x7 == 7) && p127 then Option.bind (m_spec_WorkHeld x3 x4 x5 x8) (fun p133=>Option.bind (m_spec_l1Has p133 x9) (fun p137=>some p137)) else some false) (fun p129=>(bif p129 then Option.bind (m_spec_l39Mend x0 x1 x2 x3 x4 x5 x6 x8) (fun p194=>some (p194.1,p194.2.1,p194.2.2.1,p194.2.2.2.1,p194.2.2.2.2.1,p194.2.2.2.2.2.1,p194.2.2.2.2.2.2,true)) else (bif (x7 == 0) && p127 then Option.bind (m_spec_l39Copy x0 x1 x2 x3 x4 x5 x6) (fun p175=>some (p175.1,p175.2.1,p175.2.2.1,p175.2.2.2.1,p175.2.2.2.2.1,p175.2.2.2.2.2.1,p175.2.2.2.2.2.2,false)) else Option.bind (m_spec_l39Copy x0 x1 x2 x3 x4 x5 x6) (fun p142=>Option.bind (m_spec_WorkDo x3 x4 x5 x7 x8 x9) (fun p162=>Option.bind (gb (!(!p162.2.2.2)) (m_spec_Radial x0 x1 p162.1 x2)) (fun p173=>(bif (!p162.2.2.2) || (!p173) then some (p142.1,p142.2.1,p142.2.2.1,p142.2.2.2.1,p142.2.2.2.2.1,p142.2.2.2.2.2.1,p142.2.2.2.2.2.2,false) else some (p142.1,p142.2.1,p142.2.2.1,p162.1,p162.2.1,p162.2.2.1,p142.2.2.2.2.2.2,true)))))))))) else Option.bind (m_spec_l39Copy x0 x1 x2 x3 x4 x5 x6) (fun p108=>some (p108.1,p108.2.1,p108.2.2.1,p108.2.2.2.1,p108.2.2.2.2.1,p108.2.2.2.2.2.1,p108.2.2.2.2.2.2,false)))) else some (0,([]:List (Int×Int×Int)),([]:List (Int×Int)),([]:List Bool),([]:List Bool),([]:List (Int×Int)),([]:List Int),false)))
def m_spec_l20World_l1s (x0:List Int) (rec:(Int×Int×Int×List (Int×Int×Int)×List (Int×Int)×List Bool×List Bool×List (Int×Int)×List Int) → Option ((Int×Int×List (Int×Int×Int)×List (Int×Int)×List Bool×List Bool×List (Int×Int)×List Int))) (p132:(Int×Int×Int×List (Int×Int×Int)×List (Int×Int)×List Bool×List Bool×List (Int×Int)×List Int)):Option ((Int×Int×List (Int×Int×Int)×List (Int×Int)×List Bool×List Bool×List (Int×Int)×List Int)):=(bif ltB 0 p132.1 then Option.bind (m_spec_l20WorldDeed x0 p132.2.1 p132.2.2.1 p132.2.2.2.1 p132.2.2.2.2.1 p132.2.2.2.2.2.1 p132.2.2.2.2.2.2.1 p132.2.2.2.2.2.2.2.1 p132.2.2.2.2.2.2.2.2) (fun p146=>Option.bind (m_spec_WorldDo p132.2.2.1 p132.2.2.2.1 p132.2.2.2.2.1 p132.2.2.2.2.2.1 p132.2.2.2.2.2.2.1 p132.2.2.2.2.2.2.2.1 p132.2.2.2.2.2.2.2.2 p146.1 p146.2.1 p146.2.2.1) (fun p147=>Option.bind (bif p147.2.2.2.2.2.2.2 then some (p147.1,p147.2.1,p147.2.2.1,p147.2.2.2.1,p147.2.2.2.2.1,p147.2.2.2.2.2.1,p147.2.2.2.2.2.2.1) else some (p132.2.2.1,p132.2.2.2.1,p132.2.2.2.2.1,p132.2.2.2.2.2.1,p132.2.2.2.2.2.2.1,p132.2.2.2.2.2.2.2.1,p132.2.2.2.2.2.2.2.2)) (fun p179=>rec (w64 (p132.1 - 1),p146.2.2.2,p179.1,p179.2.1,p179.2.2.1,p179.2.2.2.1,p179.2.2.2.2.1,p179.2.2.2.2.2.1,p179.2.2.2.2.2.2)))) else some (p132.2.1,p132.2.2.1,p132.2.2.2.1,p132.2.2.2.2.1,p132.2.2.2.2.2.1,p132.2.2.2.2.2.2.1,p132.2.2.2.2.2.2.2.1,p132.2.2.2.2.2.2.2.2))
def m_spec_l20World_l1 (x0:List Int):Nat → (Int×Int×Int×List (Int×Int×Int)×List (Int×Int)×List Bool×List Bool×List (Int×Int)×List Int) → Option ((Int×Int×List (Int×Int×Int)×List (Int×Int)×List Bool×List Bool×List (Int×Int)×List Int)):=itr (m_spec_l20World_l1s x0)
theorem e_spec_l20World_l1 (x0:List Int) (n:Nat) (p:(Int×Int×Int×List (Int×Int×Int)×List (Int×Int)×List Bool×List Bool×List (Int×Int)×List Int)) : m_spec_l20World_l1 x0 (n+1) p=m_spec_l20World_l1s x0 (m_spec_l20World_l1 x0 n) p:=rfl
def m_spec_l20World_l2s (p117:Int×Int×List (Int×Int×Int)×List (Int×Int)×List Bool×List Bool×List (Int×Int)×List Int) (rec:(Int×List Int) → Option ((List Int))) (p267:(Int×List Int)):Option ((List Int)):=(bif ltB p267.1 (p117.2.2.2.2.1.length:Int) then chk (ixB p267.1 p117.2.2.2.2.1.length) (Option.bind (bif p117.2.2.2.2.1.getD p267.1.toNat false then some ([p267.1]:List Int) else some p267.2) (fun p272=>rec (w64 (p267.1+1),p272))) else some p267.2)
def m_spec_l20World_l2 (p117:Int×Int×List (Int×Int×Int)×List (Int×Int)×List Bool×List Bool×List (Int×Int)×List Int):Nat → (Int×List Int) → Option ((List Int)):=itr (m_spec_l20World_l2s p117)
theorem e_spec_l20World_l2 (p117:Int×Int×List (Int×Int×Int)×List (Int×Int)×List Bool×List Bool×List (Int×Int)×List Int) (n:Nat) (p:(Int×List Int)) : m_spec_l20World_l2 p117 (n+1) p=m_spec_l20World_l2s p117 (m_spec_l20World_l2 p117 n) p:=rfl
def m_spec_l20World (x0:List Int) (x1:Int) (x2:Int):Option (Int×List (Int×Int×Int)×List (Int×Int)×List Bool×List Bool×List (Int×Int)×List Int×Int):=Option.bind (m_spec_l20Radial x0 x1 0) (fun p102=>chk (mkB (p102.2.2.1.length:Int)) (Option.bind (m_spec_l20Rd_pick x0 p102.2.2.2.2 10) (fun p116=>Option.bind (m_spec_l20World_l1 x0 FUEL (p116.1,p116.2,p102.1,p102.2.1,p102.2.2.2.1,p102.2.2.1,List.replicate p102.2.2.1.length false,([]:List (Int×Int)),([]:List Int))) (fun p117=>Option.bind (m_spec_l20Rd_odd x0 p117.1 x2) (fun p195=>Option.bind (bif p195.1 then Option.bind (m_spec_l20Rd_pick x0 p195.2 5) (fun p208=>Option.bind (bif p208.1 == 0 then chk (slB 1 (p117.2.2.2.1.length:Int) p117.2.2.2.1.length) (some (subL p117.2.2.2.1 1 (p117.2.2.2.1.length:Int),p117.2.2.2.2.1,p117.2.2.2.2.2.1,p117.2.2.2.2.2.2.2)) else Option.bind (bif p208.1 == 1 then chk (apB p117.2.2.2.2.2.2.2.length ([(p117.2.2.2.2.1.length:Int)]:List Int).length) (some (p117.2.2.2.1,p117.2.2.2.2.1,p117.2.2.2.2.2.1,p117.2.2.2.2.2.2.2++([(p117.2.2.2.2.1.length:Int)]:List Int))) else Option.bind (bif p208.1 == 2 then Option.bind (m_spec_l20World_l2 p117 FUEL (0,p117.2.2.2.2.2.2.2)) (fun p262=>some (p117.2.2.2.1,p117.2.2.2.2.1,p117.2.2.2.2.2.1,p262)) else Option.bind (bif p208.1 == 3 then chk (apB p117.2.2.2.2.1.length ([false]:List Bool).length) (chk (apB p117.2.2.2.2.2.1.length ([false]:List Bool).length) (some (p117.2.2.2.1,p117.2.2.2.2.1++([false]:List Bool),p117.2.2.2.2.2.1++([false]:List Bool)))) else chk (ixB 0 p117.2.2.2.1.length) (chk (ixB 1 p117.2.2.2.1.length) (some ((p117.2.2.2.1.set ((0:Int).toNat) (9,(p117.2.2.2.1.getD ((0:Int).toNat) ((0,0):Int×Int)).2)).set ((1:Int).toNat) (9,((p117.2.2.2.1.set ((0:Int).toNat) (9,(p117.2.2.2.1.getD ((0:Int).toNat) ((0,0):Int×Int)).2)).getD ((1:Int).toNat) ((0,0):Int×Int)).2),p117.2.2.2.2.1,p117.2.2.2.2.2.1)))) (fun p243=>some (p243.1,p243.2.1,p243.2.2,p117.2.2.2.2.2.2.2))) (fun p232=>some (p232.1,p232.2.1,p232.2.2.1,p232.2.2.2))) (fun p221=>some (p221.1,p221.2.1,p221.2.2.1,p221.2.2.2))) (fun p209=>some (p208.2,p209.1,p209.2.1,p209.2.2.1,p209.2.2.2))) else some (p195.2,p117.2.2.2.1,p117.2.2.2.2.1,p117.2.2.2.2.2.1,p117.2.2.2.2.2.2.2)) (fun p196=>some (p117.2.1,p117.2.2.1,p196.2.1,p196.2.2.1,p196.2.2.2.1,p117.2.2.2.2.2.2.1,p196.2.2.2.2,p196.1)))))))
def m_spec_l20Line (x0:List Int) (x1:Int) (x2:Int) (x3:List (Int×Int×Int)) (x4:List (Int×Int)) (x5:List Bool) (x6:List Bool) (x7:List (Int×Int)) (x8:List Int):Option (ByteArray×Int):=Option.bind (m_spec_l20Rd_pick x0 x1 10) (fun p103=>chk (ixB p103.1 (([({ data:=#[111,110] }:ByteArray),({ data:=#[111,110] }:ByteArray),({ data:=#[111,102,102] }:ByteArray),({ data:=#[101,97,114,116,104] }:ByteArray),({ data:=#[99,108,101,97,114] }:ByteArray),({ data:=#[105,115,115,117,101] }:ByteArray),({ data:=#[114,101,116,117,114,110] }:ByteArray),({ data:=#[98,114,101,97,107] }:ByteArray),({ data:=#[109,101,110,100] }:ByteArray),({ data:=#[102,108,111,119] }:ByteArray)]:List ByteArray).length)) (chk (stB (([({ data:=#[111,110] }:ByteArray),({ data:=#[111,110] }:ByteArray),({ data:=#[111,102,102] }:ByteArray),({ data:=#[101,97,114,116,104] }:ByteArray),({ data:=#[99,108,101,97,114] }:ByteArray),({ data:=#[105,115,115,117,101] }:ByteArray),({ data:=#[114,101,116,117,114,110] }:ByteArray),({ data:=#[98,114,101,97,107] }:ByteArray),({ data:=#[109,101,110,100] }:ByteArray),({ data:=#[102,108,111,119] }:ByteArray)]:List ByteArray).getD p103.1.toNat ByteArray.empty).size ({ data:=#[32] }:ByteArray).size) (Option.bind (m_spec_l20Rd_pick x0 p103.2 (w64 ((x5.length:Int)+1))) (fun p106=>Option.bind (m_spec_l1Number p106.1) (fun p107=>chk (stB ((([({ data:=#[111,110] }:ByteArray),({ data:=#[111,110] }:ByteArray),({ data:=#[111,102,102] }:ByteArray),({ data:=#[101,97,114,116,104] }:ByteArray),({ data:=#[99,108,101,97,114] }:ByteArray),({ data:=#[105,115,115,117,101] }:ByteArray),({ data:=#[114,101,116,117,114,110] }:ByteArray),({ data:=#[98,114,101,97,107] }:ByteArray),({ data:=#[109,101,110,100] }:ByteArray),({ data:=#[102,108,111,119] }:ByteArray)]:List ByteArray).getD p103.1.toNat ByteArray.empty)++({ data:=#[32] }:ByteArray)).size p107.size) (Option.bind (bif (((([({ data:=#[111,110] }:ByteArray),({ data:=#[111,110] }:ByteArray),({ data:=#[111,102,102] }:ByteArray),({ data:=#[101,97,114,116,104] }:ByteArray),({ data:=#[99,108,101,97,114] }:ByteArray),({ data:=#[105,115,115,117,101] }:ByteArray),({ data:=#[114,101,116,117,114,110] }:ByteArray),({ data:=#[98,114,101,97,107] }:ByteArray),({ data:=#[109,101,110,100] }:ByteArray),({ data:=#[102,108,111,119] }:ByteArray)]:List ByteArray).getD p103.1.toNat ByteArray.empty).toList == ({ data:=#[105,115,115,117,101] }:ByteArray).toList) || ((([({ data:=#[111,110] }:ByteArray),({ data:=#[111,110] }:ByteArray),({ data:=#[111,102,102] }:ByteArray),({ data:=#[101,97,114,116,104] }:ByteArray),({ data:=#[99,108,101,97,114] }:ByteArray),({ data:=#[105,115,115,117,101] }:ByteArray),({ data:=#[114,101,116,117,114,110] }:ByteArray),({ data:=#[98,114,101,97,107] }:ByteArray),({ data:=#[109,101,110,100] }:ByteArray),({ data:=#[102,108,111,119] }:ByteArray)]:List ByteArray).getD p103.1.toNat ByteArray.empty).toList == ({ data:=#[114,101,116,117,114,110] }:ByteArray).toList)) || ((([({ data:=#[111,110] }:ByteArray),({ data:=#[111,110] }:ByteArray),({ data:=#[111,102,102] }:ByteArray),({ data:=#[101,97,114,116,104] }:ByteArray),({ data:=#[99,108,101,97,114] }:ByteArray),({ data:=#[105,115,115,117,101] }:ByteArray),({ data:=#[114,101,116,117,114,110] }:ByteArray),({ data:=#[98,114,101,97,107] }:ByteArray),({ data:=#[109,101,110,100] }:ByteArray),({ data:=#[102,108,111,119] }:ByteArray)]:List ByteArray).getD p103.1.toNat ByteArray.empty).toList == ({ data:=#[109,101,110,100] }:ByteArray).toList) then chk (stB (((([({ data:=#[111,110] }:ByteArray),({ data:=#[111,110] }:ByteArray),({ data:=#[111,102,102] }:ByteArray),({ data:=#[101,97,114,116,104] }:ByteArray),({ data:=#[99,108,101,97,114] }:ByteArray),({ data:=#[105,115,115,117,101] }:ByteArray),({ data:=#[114,101,116,117,114,110] }:ByteArray),({ data:=#[98,114,101,97,107] }:ByteArray),({ data:=#[109,101,110,100] }:ByteArray),({ data:=#[102,108,111,119] }:ByteArray)]:List ByteArray).getD p103.1.toNat ByteArray.empty)++({ data:=#[32] }:ByteArray))++p107).size ({ data:=#[32] }:ByteArray).size) (Option.bind (m_spec_l20Rd_pick x0 p106.2 3) (fun p114=>Option.bind (m_spec_l1Number p114.1) (fun p115=>chk (stB ((((([({ data:=#[111,110] }:ByteArray),({ data:=#[111,110] }:ByteArray),({ data:=#[111,102,102] }:ByteArray),({ data:=#[101,97,114,116,104] }:ByteArray),({ data:=#[99,108,101,97,114] }:ByteArray),({ data:=#[105,115,115,117,101] }:ByteArray),({ data:=#[114,101,116,117,114,110] }:ByteArray),({ data:=#[98,114,101,97,107] }:ByteArray),({ data:=#[109,101,110,100] }:ByteArray),({ data:=#[102,108,111,119] }:ByteArray)]:List ByteArray).getD p103.1.toNat ByteArray.empty)++({ data:=#[32] }:ByteArray))++p107)++({ data:=#[32] }:ByteArray)).size p115.size) (some (((((([({ data:=#[111,110] }:ByteArray),({ data:=#[111,110] }:ByteArray),({ data:=#[111,102,102] }:ByteArray),({ data:=#[101,97,114,116,104] }:ByteArray),({ data:=#[99,108,101,97,114] }:ByteArray),({ data:=#[105,115,115,117,101] }:ByteArray),({ data:=#[114,101,116,117,114,110] }:ByteArray),({ data:=#[98,114,101,97,107] }:ByteArray),({ data:=#[109,101,110,100] }:ByteArray),({ data:=#[102,108,111,119] }:ByteArray)]:List ByteArray).getD p103.1.toNat ByteArray.empty)++({ data:=#[32] }:ByteArray))++p107)++({ data:=#[32] }:ByteArray))++p115,p114.2))))) else some (((([({ data:=#[111,110] }:ByteArray),({ data:=#[111,110] }:ByteArray),({ data:=#[111,102,102] }:ByteArray),({ data:=#[101,97,114,116,104] }:ByteArray),({ data:=#[99,108,101,97,114] }:ByteArray),({ data:=#[105,115,115,117,101] }:ByteArray),({ data:=#[114,101,116,117,114,110] }:ByteArray),({ data:=#[98,114,101,97,107] }:ByteArray),({ data:=#[109,101,110,100] }:ByteArray),({ data:=#[102,108,111,119] }:ByteArray)]:List ByteArray).getD p103.1.toNat ByteArray.empty)++({ data:=#[32] }:ByteArray))++p107,p106.2)) (fun p109=>Option.bind (m_spec_l20Rd_pick x0 p109.2 8) (fun p117=>(bif p117.1 == 0 then Option.bind (m_spec_l20Rd_pick x0 p117.2 6) (fun p124=>chk (ixB p124.1 (([({ data:=#[115,116,97,116,101] }:ByteArray),({ data:=#[115,101,114,118,101,100] }:ByteArray),({ data:=#[100,97,114,107] }:ByteArray),({ data:=#[98,114,111,107,101,110] }:ByteArray),({ data:=#[110,101,116] }:ByteArray),({ data:=#[104,101,97,108] }:ByteArray)]:List ByteArray).length)) (some ((([({ data:=#[115,116,97,116,101] }:ByteArray),({ data:=#[115,101,114,118,101,100] }:ByteArray),({ data:=#[100,97,114,107] }:ByteArray),({ data:=#[98,114,111,107,101,110] }:ByteArray),({ data:=#[110,101,116] }:ByteArray),({ data:=#[104,101,97,108] }:ByteArray)]:List ByteArray).getD p124.1.toNat ByteArray.empty),p124.2))) else (bif p117.1 == 1 then Option.bind (m_spec_l20Rd_pick x0 p117.2 8) (fun p121=>chk (ixB p121.1 (([({ data:=#[] }:ByteArray),({ data:=#[111,110] }:ByteArray),({ data:=#[111,110,32,48,49] }:ByteArray),({ data:=#[105,115,115,117,101,32,49] }:ByteArray),({ data:=#[115,116,97,116,101,32,49] }:ByteArray),({ data:=#[111,102,102,32,49,32] }:ByteArray),({ data:=#[122,105,112] }:ByteArray),({ data:=#[102,108,111,119,32,120] }:ByteArray)]:List ByteArray).length)) (some ((([({ data:=#[] }:ByteArray),({ data:=#[111,110] }:ByteArray),({ data:=#[111,110,32,48,49] }:ByteArray),({ data:=#[105,115,115,117,101,32,49] }:ByteArray),({ data:=#[115,116,97,116,101,32,49] }:ByteArray),({ data:=#[111,102,102,32,49,32] }:ByteArray),({ data:=#[122,105,112] }:ByteArray),({ data:=#[102,108,111,119,32,120] }:ByteArray)]:List ByteArray).getD p121.1.toNat ByteArray.empty),p121.2))) else some (p109.1,p117.2)))))))))))
def m_impl_powerValid (x0:Int):Option (Bool):=some ((leB 0 x0) && (leB x0 999))
def m_impl_BusesValid_l1s (x2:List (Int×Int)) (rec:Int → Option (Unit ⊕ Bool)) (p107:Int):Option (Unit ⊕ Bool):=(bif ltB p107 (x2.length:Int) then chk (ixB p107 x2.length) (Option.bind (m_impl_powerValid ((x2.getD p107.toNat ((0,0):Int×Int)).1)) (fun p111=>Option.bind (gb (!(!p111)) (m_impl_powerValid ((x2.getD p107.toNat ((0,0):Int×Int)).2))) (fun p112=>(bif (!p111) || (!p112) then some (Sum.inr false) else rec (w64 (p107+1)))))) else some (Sum.inl ()))
def m_impl_BusesValid_l1 (x2:List (Int×Int)):Nat → Int → Option (Unit ⊕ Bool):=itr (m_impl_BusesValid_l1s x2)
theorem e_impl_BusesValid_l1 (x2:List (Int×Int)) (n:Nat) (p:Int) : m_impl_BusesValid_l1 x2 (n+1) p=m_impl_BusesValid_l1s x2 (m_impl_BusesValid_l1 x2 n) p:=rfl
def m_impl_BusesValid (x0:Int) (x1:List (Int×Int×Int)) (x2:List (Int×Int)):Option (Bool):=Option.bind (m_impl_NetValid x0 x1) (fun p102=>(bif (!p102) || ((x2.length:Int) != x0) then some false else Option.bind (m_impl_BusesValid_l1 x2 FUEL 0:Option (Unit ⊕ Bool)) (Sum.elim (fun (p104:Unit)=>some true) (fun (r:Bool)=>some r))))
def m_slices_Index_impl_Permit_impl_Permit_l1s (x0:List (Int×Int)) (x1:Int) (x2:Int) (rec:Int → Option (Unit ⊕ Int)) (p105:Int):Option (Unit ⊕ Int):=(bif ltB p105 (x0.length:Int) then chk (ixB p105 x0.length) ((bif (x1 == ((x0.getD p105.toNat ((0,0):Int×Int)).1)) && (x2 == ((x0.getD p105.toNat ((0,0):Int×Int)).2)) then some (Sum.inr p105) else rec (w64 (p105+1)))) else some (Sum.inl ()))
def m_slices_Index_impl_Permit_impl_Permit_l1 (x0:List (Int×Int)) (x1:Int) (x2:Int):Nat → Int → Option (Unit ⊕ Int):=itr (m_slices_Index_impl_Permit_impl_Permit_l1s x0 x1 x2)
theorem e_slices_Index_impl_Permit_impl_Permit_l1 (x0:List (Int×Int)) (x1:Int) (x2:Int) (n:Nat) (p:Int) : m_slices_Index_impl_Permit_impl_Permit_l1 x0 x1 x2 (n+1) p=m_slices_Index_impl_Permit_impl_Permit_l1s x0 x1 x2 (m_slices_Index_impl_Permit_impl_Permit_l1 x0 x1 x2 n) p:=rfl
def m_slices_Index_impl_Permit_impl_Permit (x0:List (Int×Int)) (x1:Int) (x2:Int):Option (Int):=Option.bind (m_slices_Index_impl_Permit_impl_Permit_l1 x0 x1 x2 FUEL 0:Option (Unit ⊕ Int)) (Sum.elim (fun (p102:Unit)=>some (-1)) (fun (r:Int)=>some r))
def m_slices_Contains_impl_Permit_impl_Permit (x0:List (Int×Int)) (x1:Int) (x2:Int):Option (Bool):=Option.bind (m_slices_Index_impl_Permit_impl_Permit x0 x1 x2) (fun p102=>some (leB 0 p102))
def m_impl_WorkValid_l1s (x0:List Bool) (x1:List Bool) (rec:Int → Option (Unit ⊕ Bool)) (p106:Int):Option (Unit ⊕ Bool):=(bif ltB p106 (x0.length:Int) then chk (ixB p106 x0.length) (chk (!(x0.getD p106.toNat false) || ixB p106 x1.length) ((bif (x0.getD p106.toNat false) && (x1.getD p106.toNat false) then some (Sum.inr false) else rec (w64 (p106+1))))) else some (Sum.inl ()))
def m_impl_WorkValid_l1 (x0:List Bool) (x1:List Bool):Nat → Int → Option (Unit ⊕ Bool):=itr (m_impl_WorkValid_l1s x0 x1)
theorem e_impl_WorkValid_l1 (x0:List Bool) (x1:List Bool) (n:Nat) (p:Int) : m_impl_WorkValid_l1 x0 x1 (n+1) p=m_impl_WorkValid_l1s x0 x1 (m_impl_WorkValid_l1 x0 x1 n) p:=rfl
def m_impl_WorkValid_l2s (x0:List Bool) (x1:List Bool) (x2:List (Int×Int)) (rec:Int → Option (Unit ⊕ Bool)) (p114:Int):Option (Unit ⊕ Bool):=(bif ltB p114 (x2.length:Int) then chk (ixB p114 x2.length) (chk (!(!((((ltB ((x2.getD p114.toNat ((0,0):Int×Int)).1) 0) || (ltB 9 ((x2.getD p114.toNat ((0,0):Int×Int)).1))) || (ltB ((x2.getD p114.toNat ((0,0):Int×Int)).2) 0)) || (leB (x0.length:Int) ((x2.getD p114.toNat ((0,0):Int×Int)).2)))) || ixB ((x2.getD p114.toNat ((0,0):Int×Int)).2) x1.length) (chk (!(!(((((ltB ((x2.getD p114.toNat ((0,0):Int×Int)).1) 0) || (ltB 9 ((x2.getD p114.toNat ((0,0):Int×Int)).1))) || (ltB ((x2.getD p114.toNat ((0,0):Int×Int)).2) 0)) || (leB (x0.length:Int) ((x2.getD p114.toNat ((0,0):Int×Int)).2))) || (!(x1.getD (((x2.getD p114.toNat ((0,0):Int×Int)).2).toNat) false)))) || slB 0 p114 x2.length) (Option.bind (gb (!(((((ltB ((x2.getD p114.toNat ((0,0):Int×Int)).1) 0) || (ltB 9 ((x2.getD p114.toNat ((0,0):Int×Int)).1))) || (ltB ((x2.getD p114.toNat ((0,0):Int×Int)).2) 0)) || (leB (x0.length:Int) ((x2.getD p114.toNat ((0,0):Int×Int)).2))) || (!(x1.getD (((x2.getD p114.toNat ((0,0):Int×Int)).2).toNat) false)))) (m_slices_Contains_impl_Permit_impl_Permit (subL x2 0 p114) ((x2.getD p114.toNat ((0,0):Int×Int)).1) ((x2.getD p114.toNat ((0,0):Int×Int)).2))) (fun p120=>(bif (((((ltB ((x2.getD p114.toNat ((0,0):Int×Int)).1) 0) || (ltB 9 ((x2.getD p114.toNat ((0,0):Int×Int)).1))) || (ltB ((x2.getD p114.toNat ((0,0):Int×Int)).2) 0)) || (leB (x0.length:Int) ((x2.getD p114.toNat ((0,0):Int×Int)).2))) || (!(x1.getD (((x2.getD p114.toNat ((0,0):Int×Int)).2).toNat) false))) || p120 then some (Sum.inr false) else rec (w64 (p114+1))))))) else some (Sum.inl ()))
def m_impl_WorkValid_l2 (x0:List Bool) (x1:List Bool) (x2:List (Int×Int)):Nat → Int → Option (Unit ⊕ Bool):=itr (m_impl_WorkValid_l2s x0 x1 x2)
theorem e_impl_WorkValid_l2 (x0:List Bool) (x1:List Bool) (x2:List (Int×Int)) (n:Nat) (p:Int) : m_impl_WorkValid_l2 x0 x1 x2 (n+1) p=m_impl_WorkValid_l2s x0 x1 x2 (m_impl_WorkValid_l2 x0 x1 x2 n) p:=rfl
def m_impl_WorkValid (x0:List Bool) (x1:List Bool) (x2:List (Int×Int)):Option (Bool):=(bif (((ltB (x0.length:Int) 1) || (ltB 10 (x0.length:Int))) || ((x1.length:Int) != (x0.length:Int))) || (ltB 6 (x2.length:Int)) then some false else Option.bind (m_impl_WorkValid_l1 x0 x1 FUEL 0:Option (Unit ⊕ Bool)) (Sum.elim (fun (p103:Unit)=>Option.bind (m_impl_WorkValid_l2 x0 x1 x2 FUEL 0:Option (Unit ⊕ Bool)) (Sum.elim (fun (p111:Unit)=>some true) (fun (r:Bool)=>some r))) (fun (r:Bool)=>some r)))
def m_impl_Net_hasLine (x0:Int) (x1:List (Int×Int×Int)) (x2:Int):Option (Bool):=some ((leB 0 x2) && (ltB x2 (x1.length:Int)))
def m_impl_StateValid (x0:Int) (x1:List (Int×Int×Int)) (x2:List Bool):Option (Bool):=Option.bind (m_impl_NetValid x0 x1) (fun p102=>some (p102 && ((x2.length:Int) == (x1.length:Int))))
def m_impl_fedValid (x0:Int) (x1:List (Int×Int×Int)) (x2:List Bool) (x3:List (Int×Int)):Option (Bool):=Option.bind (m_impl_StateValid x0 x1 x2) (fun p102=>Option.bind (gb p102 (m_impl_BusesValid x0 x1 x3)) (fun p103=>some (p102 && p103)))
def m_impl_newUnion_l1s (x0:Int) (rec:(List Int×Int) → Option ((List Int))) (p107:(List Int×Int)):Option ((List Int)):=(bif ltB p107.2 (x0.toNat:Int) then chk (ixB p107.2 x0.toNat) (rec (p107.1.set p107.2.toNat p107.2,w64 (p107.2+1))) else some p107.1)
def m_impl_newUnion_l1 (x0:Int):Nat → (List Int×Int) → Option ((List Int)):=itr (m_impl_newUnion_l1s x0)
theorem e_impl_newUnion_l1 (x0:Int) (n:Nat) (p:(List Int×Int)) : m_impl_newUnion_l1 x0 (n+1) p=m_impl_newUnion_l1s x0 (m_impl_newUnion_l1 x0 n) p:=rfl
def m_impl_newUnion (x0:Int):Option (List Int):=chk (mkB x0) (Option.bind (m_impl_newUnion_l1 x0 FUEL (List.replicate x0.toNat (0:Int),0)) (fun p103=>some p103))
def m_impl_union_find_l1s (x0:List Int) (rec:(List Int×Int) → Option ((Int×List Int))) (p105:(List Int×Int)):Option ((Int×List Int)):=chk (ixB p105.2 x0.length) ((bif (p105.1.getD p105.2.toNat (0:Int)) != p105.2 then chk (ixB p105.2 x0.length) (chk (ixB (p105.1.getD p105.2.toNat (0:Int)) x0.length) (chk (ixB p105.2 x0.length) (chk (ixB p105.2 x0.length) (rec (p105.1.set p105.2.toNat (p105.1.getD ((p105.1.getD p105.2.toNat (0:Int)).toNat) (0:Int)),((p105.1.set p105.2.toNat (p105.1.getD ((p105.1.getD p105.2.toNat (0:Int)).toNat) (0:Int))).getD p105.2.toNat (0:Int))))))) else some (p105.2,p105.1)))
def m_impl_union_find_l1 (x0:List Int):Nat → (List Int×Int) → Option ((Int×List Int)):=itr (m_impl_union_find_l1s x0)
theorem e_impl_union_find_l1 (x0:List Int) (n:Nat) (p:(List Int×Int)) : m_impl_union_find_l1 x0 (n+1) p=m_impl_union_find_l1s x0 (m_impl_union_find_l1 x0 n) p:=rfl
def m_impl_union_find (x0:List Int) (x1:Int):Option (Int×List Int):=Option.bind (m_impl_union_find_l1 x0 FUEL (x0,x1)) (fun p101=>some (p101.1,p101.2))
def m_impl_union_same (x0:List Int) (x1:Int) (x2:Int):Option (Bool×List Int):=Option.bind (m_impl_union_find x0 x1) (fun p101=>Option.bind (m_impl_union_find p101.2 x2) (fun p103=>some (p101.1 == p103.1,p103.2)))
def m_impl_union_join (x0:List Int) (x1:Int) (x2:Int):Option (List Int):=Option.bind (m_impl_union_find x0 x1) (fun p101=>Option.bind (m_impl_union_find p101.2 x2) (fun p103=>chk (ixB (max p101.1 p103.1) x0.length) (some (p103.2.set ((max p101.1 p103.1).toNat) (min p101.1 p103.1)))))
def m_impl_hasCycle_l1s (x1:List (Int×Int×Int)) (x2:List Bool) (rec:(List Int×Int) → Option (Unit ⊕ Bool)) (p109:(List Int×Int)):Option (Unit ⊕ Bool):=(bif ltB p109.2 (x1.length:Int) then chk (ixB p109.2 x1.length) (chk (ixB p109.2 x2.length) (Option.bind ((bif x2.getD p109.2.toNat false then Option.bind (m_impl_union_same p109.1 ((x1.getD p109.2.toNat ((0,0,0):Int×Int×Int)).1) ((x1.getD p109.2.toNat ((0,0,0):Int×Int×Int)).2.1)) (fun p120=>(bif p120.1 then some (Sum.inr true) else Option.bind (m_impl_union_join p120.2 ((x1.getD p109.2.toNat ((0,0,0):Int×Int×Int)).1) ((x1.getD p109.2.toNat ((0,0,0):Int×Int×Int)).2.1)) (fun p123=>some (Sum.inl p123)))) else some (Sum.inl p109.1)):Option ((List Int) ⊕ Bool)) (Sum.elim (fun (p115:List Int)=>rec (p115,w64 (p109.2+1))) (fun (r:Bool)=>some (Sum.inr r))))) else some (Sum.inl ()))
def m_impl_hasCycle_l1 (x1:List (Int×Int×Int)) (x2:List Bool):Nat → (List Int×Int) → Option (Unit ⊕ Bool):=itr (m_impl_hasCycle_l1s x1 x2)
theorem e_impl_hasCycle_l1 (x1:List (Int×Int×Int)) (x2:List Bool) (n:Nat) (p:(List Int×Int)) : m_impl_hasCycle_l1 x1 x2 (n+1) p=m_impl_hasCycle_l1s x1 x2 (m_impl_hasCycle_l1 x1 x2 n) p:=rfl
def m_impl_hasCycle (x0:Int) (x1:List (Int×Int×Int)) (x2:List Bool):Option (Bool):=Option.bind (m_impl_newUnion x0) (fun p102=>Option.bind (m_impl_hasCycle_l1 x1 x2 FUEL (p102,0):Option (Unit ⊕ Bool)) (Sum.elim (fun (p106:Unit)=>some false) (fun (r:Bool)=>some r)))
def m_impl_Line_other (x0:Int) (x1:Int) (x2:Int) (x3:Int):Option (Int):=(bif x3 == x0 then some x1 else (bif x3 == x1 then some x0 else some (-1)))
def m_impl_tree_search_l2s (x1:List (Int×Int×Int)) (x2:List Int) (x3:List Int) (x5:List Bool) (x6:Int) (p112:Int×List Int×List Int×List Int) (rec:(Int×List Int×List Int×List Int) → Option ((List Int×List Int×List Int))) (p126:(Int×List Int×List Int×List Int)):Option ((List Int×List Int×List Int)):=(bif ltB p126.1 (x1.length:Int) then chk (ixB p126.1 x1.length) (Option.bind (m_impl_Line_other ((x1.getD p126.1.toNat ((0,0,0):Int×Int×Int)).1) ((x1.getD p126.1.toNat ((0,0,0):Int×Int×Int)).2.1) ((x1.getD p126.1.toNat ((0,0,0):Int×Int×Int)).2.2) (p112.2.2.2.getD p112.1.toNat (0:Int))) (fun p134=>chk (ixB p126.1 x5.length) (chk (!((x5.getD p126.1.toNat false) && (leB 0 p134)) || ixB p134 x2.length) (Option.bind (bif ((x5.getD p126.1.toNat false) && (leB 0 p134)) && (ltB (p126.2.1.getD p134.toNat (0:Int)) 0) then chk (ixB p134 x2.length) (chk (ixB p134 x3.length) (chk (apB p126.2.2.2.length ([p134]:List Int).length) (some (p126.2.1.set p134.toNat x6,p126.2.2.1.set p134.toNat p126.1,p126.2.2.2++([p134]:List Int))))) else some (p126.2.1,p126.2.2.1,p126.2.2.2)) (fun p137=>rec (w64 (p126.1+1),p137.1,p137.2.1,p137.2.2)))))) else some (p126.2.1,p126.2.2.1,p126.2.2.2))
def m_impl_tree_search_l2 (x1:List (Int×Int×Int)) (x2:List Int) (x3:List Int) (x5:List Bool) (x6:Int) (p112:Int×List Int×List Int×List Int):Nat → (Int×List Int×List Int×List Int) → Option ((List Int×List Int×List Int)):=itr (m_impl_tree_search_l2s x1 x2 x3 x5 x6 p112)
theorem e_impl_tree_search_l2 (x1:List (Int×Int×Int)) (x2:List Int) (x3:List Int) (x5:List Bool) (x6:Int) (p112:Int×List Int×List Int×List Int) (n:Nat) (p:(Int×List Int×List Int×List Int)) : m_impl_tree_search_l2 x1 x2 x3 x5 x6 p112 (n+1) p=m_impl_tree_search_l2s x1 x2 x3 x5 x6 p112 (m_impl_tree_search_l2 x1 x2 x3 x5 x6 p112 n) p:=rfl
def m_impl_tree_search_l1s (x1:List (Int×Int×Int)) (x2:List Int) (x3:List Int) (x5:List Bool) (x6:Int) (rec:(Int×List Int×List Int×List Int) → Option ((List Int×List Int×List Int))) (p112:(Int×List Int×List Int×List Int)):Option ((List Int×List Int×List Int)):=(bif ltB p112.1 (p112.2.2.2.length:Int) then chk (ixB p112.1 p112.2.2.2.length) (Option.bind (m_impl_tree_search_l2 x1 x2 x3 x5 x6 p112 FUEL (0,p112.2.1,p112.2.2.1,p112.2.2.2)) (fun p119=>rec (w64 (p112.1+1),p119.1,p119.2.1,p119.2.2))) else some (p112.2.1,p112.2.2.1,p112.2.2.2))
def m_impl_tree_search_l1 (x1:List (Int×Int×Int)) (x2:List Int) (x3:List Int) (x5:List Bool) (x6:Int):Nat → (Int×List Int×List Int×List Int) → Option ((List Int×List Int×List Int)):=itr (m_impl_tree_search_l1s x1 x2 x3 x5 x6)
theorem e_impl_tree_search_l1 (x1:List (Int×Int×Int)) (x2:List Int) (x3:List Int) (x5:List Bool) (x6:Int) (n:Nat) (p:(Int×List Int×List Int×List Int)) : m_impl_tree_search_l1 x1 x2 x3 x5 x6 (n+1) p=m_impl_tree_search_l1s x1 x2 x3 x5 x6 (m_impl_tree_search_l1 x1 x2 x3 x5 x6 n) p:=rfl
def m_impl_tree_search (x0:Int) (x1:List (Int×Int×Int)) (x2:List Int) (x3:List Int) (x4:List Int) (x5:List Bool) (x6:Int):Option (Int×List Int×List Int×List Int):=chk (apB x4.length ([x6]:List Int).length) (Option.bind (m_impl_tree_search_l1 x1 x2 x3 x5 x6 FUEL ((x4.length:Int),x2,x3,x4++([x6]:List Int))) (fun p105=>some (x0,p105.1,p105.2.1,p105.2.2)))
def m_impl_treeOf_l1s (x0:Int) (rec:(Int×List Int×List Int) → Option ((List Int×List Int))) (p116:(Int×List Int×List Int)):Option ((List Int×List Int)):=(bif ltB p116.1 x0 then chk (ixB p116.1 x0.toNat) (chk (ixB p116.1 x0.toNat) (rec (w64 (p116.1+1),p116.2.1.set p116.1.toNat (-1),p116.2.2.set p116.1.toNat (-1)))) else some (p116.2.1,p116.2.2))
def m_impl_treeOf_l1 (x0:Int):Nat → (Int×List Int×List Int) → Option ((List Int×List Int)):=itr (m_impl_treeOf_l1s x0)
theorem e_impl_treeOf_l1 (x0:Int) (n:Nat) (p:(Int×List Int×List Int)) : m_impl_treeOf_l1 x0 (n+1) p=m_impl_treeOf_l1s x0 (m_impl_treeOf_l1 x0 n) p:=rfl
def m_impl_treeOf_l2s (x1:List (Int×Int×Int)) (x2:List Bool) (x3:List (Int×Int)) (rec:(Int×Int×List Int×List Int×List Int) → Option ((Int×List Int×List Int×List Int) ⊕ (Int×Bool×List Int×List Int×List Int×Bool))) (p131:(Int×Int×List Int×List Int×List Int)):Option ((Int×List Int×List Int×List Int) ⊕ (Int×Bool×List Int×List Int×List Int×Bool)):=(bif ltB p131.1 (x3.length:Int) then Option.bind (chk (ixB p131.1 x3.length) ((bif ((x3.getD p131.1.toNat ((0,0):Int×Int)).1) == 0 then some (Sum.inl (p131.2.1,p131.2.2.1,p131.2.2.2.1,p131.2.2.2.2)) else chk (ixB p131.1 p131.2.2.1.length) ((bif leB 0 (p131.2.2.1.getD p131.1.toNat (0:Int)) then some (Sum.inr (0,false,([]:List Int),([]:List Int),([]:List Int),false)) else chk (ixB p131.1 p131.2.2.1.length) (Option.bind (m_impl_tree_search p131.2.1 x1 (p131.2.2.1.set p131.1.toNat p131.1) p131.2.2.2.1 p131.2.2.2.2 x2 p131.1) (fun p154=>some (Sum.inl (p154.1,p154.2.1,p154.2.2.1,p154.2.2.2)))))))):Option ((Int×List Int×List Int×List Int) ⊕ (Int×Bool×List Int×List Int×List Int×Bool))) (Sum.elim (fun (p139:Int×List Int×List Int×List Int)=>rec (w64 (p131.1+1),p139.1,p139.2.1,p139.2.2.1,p139.2.2.2)) (fun (r:(Int×Bool×List Int×List Int×List Int×Bool))=>some (Sum.inr r))) else some (Sum.inl (p131.2.1,p131.2.2.1,p131.2.2.2.1,p131.2.2.2.2)))
def m_impl_treeOf_l2 (x1:List (Int×Int×Int)) (x2:List Bool) (x3:List (Int×Int)):Nat → (Int×Int×List Int×List Int×List Int) → Option ((Int×List Int×List Int×List Int) ⊕ (Int×Bool×List Int×List Int×List Int×Bool)):=itr (m_impl_treeOf_l2s x1 x2 x3)
theorem e_impl_treeOf_l2 (x1:List (Int×Int×Int)) (x2:List Bool) (x3:List (Int×Int)) (n:Nat) (p:(Int×Int×List Int×List Int×List Int)) : m_impl_treeOf_l2 x1 x2 x3 (n+1) p=m_impl_treeOf_l2s x1 x2 x3 (m_impl_treeOf_l2 x1 x2 x3 n) p:=rfl
def m_impl_treeOf (x0:Int) (x1:List (Int×Int×Int)) (x2:List Bool) (x3:List (Int×Int)):Option (Int×Bool×List Int×List Int×List Int×Bool):=Option.bind (m_impl_fedValid x0 x1 x2 x3) (fun p103=>Option.bind (gb (!(!p103)) (m_impl_hasCycle x0 x1 x2)) (fun p104=>(bif (!p103) || p104 then some (0,false,([]:List Int),([]:List Int),([]:List Int),false) else chk (mkB x0) (chk (mkB x0) (Option.bind (m_impl_treeOf_l1 x0 FUEL (0,List.replicate x0.toNat (0:Int),List.replicate x0.toNat (0:Int))) (fun p111=>Option.bind (m_impl_treeOf_l2 x1 x2 x3 FUEL (0,x0,p111.1,p111.2,([]:List Int)):Option ((Int×List Int×List Int×List Int) ⊕ (Int×Bool×List Int×List Int×List Int×Bool))) (Sum.elim (fun (p122:Int×List Int×List Int×List Int)=>some (p122.1,true,p122.2.1,p122.2.2.1,p122.2.2.2,true)) (fun (r:(Int×Bool×List Int×List Int×List Int×Bool))=>some r))))))))
def m_impl_Radial (x0:Int) (x1:List (Int×Int×Int)) (x2:List Bool) (x3:List (Int×Int)):Option (Bool):=Option.bind (m_impl_treeOf x0 x1 x2 x3) (fun p102=>some p102.2.2.2.2.2)
def m_impl_WorldValid_l1s (x0:Int) (x1:List (Int×Int×Int)) (x3:List Bool) (x6:List Int) (rec:Int → Option (Unit ⊕ Bool)) (p108:Int):Option (Unit ⊕ Bool):=(bif ltB p108 (x6.length:Int) then chk (ixB p108 x6.length) (Option.bind (m_impl_Net_hasLine x0 x1 (x6.getD p108.toNat (0:Int))) (fun p111=>chk (!(!(!p111)) || ixB (x6.getD p108.toNat (0:Int)) x3.length) (chk (!((!((!p111) || (x3.getD ((x6.getD p108.toNat (0:Int)).toNat) false))) && (ltB 0 p108)) || ixB (w64 (p108 - 1)) x6.length) ((bif ((!p111) || (x3.getD ((x6.getD p108.toNat (0:Int)).toNat) false)) || ((ltB 0 p108) && (leB (x6.getD p108.toNat (0:Int)) (x6.getD ((w64 (p108 - 1)).toNat) (0:Int)))) then some (Sum.inr false) else rec (w64 (p108+1))))))) else some (Sum.inl ()))
def m_impl_WorldValid_l1 (x0:Int) (x1:List (Int×Int×Int)) (x3:List Bool) (x6:List Int):Nat → Int → Option (Unit ⊕ Bool):=itr (m_impl_WorldValid_l1s x0 x1 x3 x6)
theorem e_impl_WorldValid_l1 (x0:Int) (x1:List (Int×Int×Int)) (x3:List Bool) (x6:List Int) (n:Nat) (p:Int) : m_impl_WorldValid_l1 x0 x1 x3 x6 (n+1) p=m_impl_WorldValid_l1s x0 x1 x3 x6 (m_impl_WorldValid_l1 x0 x1 x3 x6 n) p:=rfl
def m_impl_WorldValid (x0:Int) (x1:List (Int×Int×Int)) (x2:List (Int×Int)) (x3:List Bool) (x4:List Bool) (x5:List (Int×Int)) (x6:List Int):Option (Bool):=Option.bind (m_impl_BusesValid x0 x1 x2) (fun p102=>Option.bind (gb (!(!p102)) (m_impl_WorkValid x3 x4 x5)) (fun p103=>(bif ((!p102) || (!p103)) || ((x3.length:Int) != (x1.length:Int)) then some false else Option.bind (m_impl_WorldValid_l1 x0 x1 x3 x6 FUEL 0:Option (Unit ⊕ Bool)) (Sum.elim (fun (p105:Unit)=>Option.bind (m_impl_Radial x0 x1 x3 x2) (fun p115=>some p115)) (fun (r:Bool)=>some r)))))
def m_slices_Clone_impl_Line_impl_Line (x0:List (Int×Int×Int)):Option (List (Int×Int×Int)):=chk (apB ([]:List (Int×Int×Int)).length x0.length) (some x0)
def m_slices_Clone_impl_Bus_impl_Bus (x0:List (Int×Int)):Option (List (Int×Int)):=chk (apB ([]:List (Int×Int)).length x0.length) (some x0)
def m_slices_Clone_bool_bool (x0:List Bool):Option (List Bool):=chk (apB ([]:List Bool).length x0.length) (some x0)
def m_slices_Clone_impl_Permit_impl_Permit (x0:List (Int×Int)):Option (List (Int×Int)):=chk (apB ([]:List (Int×Int)).length x0.length) (some x0)
def m_impl_Work_clone (x0:List Bool) (x1:List Bool) (x2:List (Int×Int)):Option (List Bool×List Bool×List (Int×Int)):=Option.bind (m_slices_Clone_bool_bool x0) (fun p103=>Option.bind (m_slices_Clone_bool_bool x1) (fun p107=>Option.bind (m_slices_Clone_impl_Permit_impl_Permit x2) (fun p111=>some (p103,p107,p111))))
def m_slices_Clone_int_int (x0:List Int):Option (List Int):=chk (apB ([]:List Int).length x0.length) (some x0)
def m_impl_World_clone (x0:Int) (x1:List (Int×Int×Int)) (x2:List (Int×Int)) (x3:List Bool) (x4:List Bool) (x5:List (Int×Int)) (x6:List Int):Option (Int×List (Int×Int×Int)×List (Int×Int)×List Bool×List Bool×List (Int×Int)×List Int):=Option.bind (m_slices_Clone_impl_Line_impl_Line x1) (fun p103=>Option.bind (m_slices_Clone_impl_Bus_impl_Bus x2) (fun p107=>Option.bind (m_impl_Work_clone x3 x4 x5) (fun p111=>Option.bind (m_slices_Clone_int_int x6) (fun p121=>some (x0,p103,p107,p111.1,p111.2.1,p111.2.2,p121)))))
def m_cmp_isNaN_int (x0:Int):Option (Bool):=some (x0 != x0)
def m_cmp_Less_int (x0:Int) (x1:Int):Option (Bool):=Option.bind (m_cmp_isNaN_int x0) (fun p101=>Option.bind (gb p101 (m_cmp_isNaN_int x1)) (fun p102=>some ((p101 && (!p102)) || (ltB x0 x1))))
def m_slices_isNaN_int (x0:Int):Option (Bool):=some (x0 != x0)
def m_slices_BinarySearch_int_int_l1s (x0:List Int) (x1:Int) (rec:(Int×Int) → Option (Int)) (p104:(Int×Int)):Option (Int):=(bif ltB p104.1 p104.2 then chk (ixB (w64 (bitsShr .u64 (wk .u64 (w64 (p104.1+p104.2))) 1)) x0.length) (Option.bind (m_cmp_Less_int (x0.getD ((w64 (bitsShr .u64 (wk .u64 (w64 (p104.1+p104.2))) 1)).toNat) (0:Int)) x1) (fun p107=>Option.bind (bif p107 then some (w64 ((w64 (bitsShr .u64 (wk .u64 (w64 (p104.1+p104.2))) 1))+1),p104.2) else some (p104.1,w64 (bitsShr .u64 (wk .u64 (w64 (p104.1+p104.2))) 1))) (fun p108=>rec (p108.1,p108.2)))) else some p104.1)
def m_slices_BinarySearch_int_int_l1 (x0:List Int) (x1:Int):Nat → (Int×Int) → Option (Int):=itr (m_slices_BinarySearch_int_int_l1s x0 x1)
theorem e_slices_BinarySearch_int_int_l1 (x0:List Int) (x1:Int) (n:Nat) (p:(Int×Int)) : m_slices_BinarySearch_int_int_l1 x0 x1 (n+1) p=m_slices_BinarySearch_int_int_l1s x0 x1 (m_slices_BinarySearch_int_int_l1 x0 x1 n) p:=rfl
def m_slices_BinarySearch_int_int (x0:List Int) (x1:Int):Option (Int×Bool):=Option.bind (m_slices_BinarySearch_int_int_l1 x0 x1 FUEL (0,(x0.length:Int))) (fun p101=>chk (!(ltB p101 (x0.length:Int)) || ixB p101 x0.length) (chk (!((ltB p101 (x0.length:Int)) && (!((x0.getD p101.toNat (0:Int)) == x1))) || ixB p101 x0.length) (Option.bind (gb ((ltB p101 (x0.length:Int)) && (!((x0.getD p101.toNat (0:Int)) == x1))) (m_slices_isNaN_int (x0.getD p101.toNat (0:Int)))) (fun p114=>Option.bind (gb (((ltB p101 (x0.length:Int)) && (!((x0.getD p101.toNat (0:Int)) == x1))) && p114) (m_slices_isNaN_int x1)) (fun p115=>some (p101,(ltB p101 (x0.length:Int)) && (((x0.getD p101.toNat (0:Int)) == x1) || (p114 && p115))))))))
def m_slices_Delete_int_int (x0:List Int) (x1:Int) (x2:Int):Option (List Int):=chk (slB x1 x2 x0.length) ((bif x1 == x2 then some x0 else chk (slB 0 x1 x0.length) (chk (slB x2 (x0.length:Int) x0.length) (chk (apB (subL x0 0 x1).length (subL x0 x2 (x0.length:Int)).length) (some ((subL x0 0 x1)++(subL x0 x2 (x0.length:Int))))))))
def m_slices_Insert_int_int (x0:List Int) (x1:Int) (x2:List Int):Option (List Int):=chk (slB 0 x1 x0.length) (chk (apB x0.length 1) (chk ((x2.length:Int) == 1) (some (x0.take x1.toNat++x2++x0.drop x1.toNat))))
def m_impl_WorkHeld_l1s (x2:List (Int×Int)) (x3:Int) (rec:(List Int×Int) → Option ((List Int))) (p109:(List Int×Int)):Option ((List Int)):=(bif ltB p109.2 (x2.length:Int) then chk (ixB p109.2 x2.length) (Option.bind (bif ((x2.getD p109.2.toNat ((0,0):Int×Int)).2) == x3 then chk (apB p109.1.length ([(x2.getD p109.2.toNat ((0,0):Int×Int)).1]:List Int).length) (some (p109.1++([(x2.getD p109.2.toNat ((0,0):Int×Int)).1]:List Int))) else some p109.1) (fun p115=>rec (p115,w64 (p109.2+1)))) else some p109.1)
def m_impl_WorkHeld_l1 (x2:List (Int×Int)) (x3:Int):Nat → (List Int×Int) → Option ((List Int)):=itr (m_impl_WorkHeld_l1s x2 x3)
theorem e_impl_WorkHeld_l1 (x2:List (Int×Int)) (x3:Int) (n:Nat) (p:(List Int×Int)) : m_impl_WorkHeld_l1 x2 x3 (n+1) p=m_impl_WorkHeld_l1s x2 x3 (m_impl_WorkHeld_l1 x2 x3 n) p:=rfl
def m_impl_WorkHeld (x0:List Bool) (x1:List Bool) (x2:List (Int×Int)) (x3:Int):Option (List Int):=Option.bind (m_impl_WorkValid x0 x1 x2) (fun p102=>(bif p102 then Option.bind (m_impl_WorkHeld_l1 x2 x3 FUEL (([]:List Int),0)) (fun p104=>some p104) else some ([]:List Int)))
def m_impl_Work_may (x0:List Bool) (x1:List Bool) (x2:List (Int×Int)) (x3:Int) (x4:Int) (x5:Int):Option (Bool):=chk (ixB x4 x0.length) (chk (ixB x4 x1.length) (Option.bind (m_slices_Contains_impl_Permit_impl_Permit x2 x5 x4) (fun p105=>Option.bind (bif x3 == 0 then some (x3 == 0) else some (x3 == 2)) (fun p106=>(bif p106 then some ((!(x0.getD x4.toNat false)) && (!(x1.getD x4.toNat false))) else (bif x3 == 1 then some (x0.getD x4.toNat false) else (bif x3 == 3 then Option.bind (bif x1.getD x4.toNat false then Option.bind (m_impl_WorkHeld x0 x1 x2 x4) (fun p119=>some ((p119.length:Int) == 0)) else some false) (fun p115=>some p115) else (bif x3 == 4 then some (((((x1.getD x4.toNat false) && (!p105)) && (leB 0 x5)) && (leB x5 9)) && (ltB (x2.length:Int) 6)) else (bif x3 == 5 then some p105 else some false)))))))))
def m_slices_Delete_impl_Permit_impl_Permit (x0:List (Int×Int)) (x1:Int) (x2:Int):Option (List (Int×Int)):=chk (slB x1 x2 x0.length) ((bif x1 == x2 then some x0 else chk (slB 0 x1 x0.length) (chk (slB x2 (x0.length:Int) x0.length) (chk (apB (subL x0 0 x1).length (subL x0 x2 (x0.length:Int)).length) (some ((subL x0 0 x1)++(subL x0 x2 (x0.length:Int))))))))
def m_impl_WorkDo (x0:List Bool) (x1:List Bool) (x2:List (Int×Int)) (x3:Int) (x4:Int) (x5:Int):Option (List Bool×List Bool×List (Int×Int)×Bool):=Option.bind (m_impl_WorkValid x0 x1 x2) (fun p104=>(bif p104 then Option.bind (m_impl_Work_clone x0 x1 x2) (fun p106=>Option.bind (gb (!((ltB x4 0) || (leB (x0.length:Int) x4))) (m_impl_Work_may x0 x1 x2 x3 x4 x5)) (fun p117=>(bif ((ltB x4 0) || (leB (x0.length:Int) x4)) || (!p117) then some (p106.1,p106.2.1,p106.2.2,false) else Option.bind (bif x3 == 0 then some (x3 == 0) else some (x3 == 1)) (fun p120=>Option.bind (bif p120 then chk (ixB x4 p106.1.length) (some (p106.1.set x4.toNat (x3 == 0),p106.2.1,p106.2.2)) else Option.bind (bif x3 == 2 then some (x3 == 2) else some (x3 == 3)) (fun p132=>Option.bind (bif p132 then chk (ixB x4 p106.2.1.length) (some (p106.2.1.set x4.toNat (x3 == 2),p106.2.2)) else Option.bind (bif x3 == 4 then chk (apB p106.2.2.length ([(x5,x4)]:List (Int×Int)).length) (some (p106.2.2++([(x5,x4)]:List (Int×Int)))) else Option.bind (bif x3 == 5 then Option.bind (m_slices_Index_impl_Permit_impl_Permit p106.2.2 x5 x4) (fun p155=>Option.bind (m_slices_Delete_impl_Permit_impl_Permit p106.2.2 p155 (w64 (p155+1))) (fun p156=>some p156)) else some p106.2.2) (fun p149=>some p149)) (fun p143=>some (p106.2.1,p143))) (fun p136=>some (p106.1,p136.1,p136.2)))) (fun p124=>some (p124.1,p124.2.1,p124.2.2,true)))))) else some (([]:List Bool),([]:List Bool),([]:List (Int×Int)),false)))
def m_impl_World_do (x0:Int) (x1:List (Int×Int×Int)) (x2:List (Int×Int)) (x3:List Bool) (x4:List Bool) (x5:List (Int×Int)) (x6:List Int) (x7:Int) (x8:Int) (x9:Int):Option (Bool×Int×List (Int×Int×Int)×List (Int×Int)×List Bool×List Bool×List (Int×Int)×List Int):=Option.bind (m_slices_BinarySearch_int_int x6 x8) (fun p102=>(bif x7 == 6 then (bif p102.2 then some (false,x0,x1,x2,x3,x4,x5,x6) else Option.bind (m_slices_Insert_int_int x6 p102.1 ([x8]:List Int)) (fun p135=>chk (ixB x8 x3.length) (some (true,x0,x1,x2,x3.set x8.toNat false,x4,x5,p135)))) else (bif x7 == 7 then Option.bind (gb (!(!p102.2)) (m_slices_Contains_impl_Permit_impl_Permit x5 x9 x8)) (fun p128=>(bif (!p102.2) || (!p128) then some (false,x0,x1,x2,x3,x4,x5,x6) else Option.bind (m_slices_Delete_int_int x6 p102.1 (w64 (p102.1+1))) (fun p130=>some (true,x0,x1,x2,x3,x4,x5,p130)))) else Option.bind ((bif x7 == 0 then (bif p102.2 then some (Sum.inr (false,x0,x1,x2,x3,x4,x5,x6)) else some (Sum.inl ())) else some (Sum.inl ())):Option (Unit ⊕ (Bool×Int×List (Int×Int×Int)×List (Int×Int)×List Bool×List Bool×List (Int×Int)×List Int))) (Sum.elim (fun (p105:Unit)=>Option.bind (m_impl_WorkDo x3 x4 x5 x7 x8 x9) (fun p110=>Option.bind (gb (p110.2.2.2 && (!(x7 != 0))) (m_impl_Radial x0 x1 p110.1 x2)) (fun p127=>some (p110.2.2.2 && ((x7 != 0) || p127),x0,x1,x2,p110.1,p110.2.1,p110.2.2.1,x6)))) (fun (r:(Bool×Int×List (Int×Int×Int)×List (Int×Int)×List Bool×List Bool×List (Int×Int)×List Int))=>some r)))))
def m_impl_WorldDo (x0:Int) (x1:List (Int×Int×Int)) (x2:List (Int×Int)) (x3:List Bool) (x4:List Bool) (x5:List (Int×Int)) (x6:List Int) (x7:Int) (x8:Int) (x9:Int):Option (Int×List (Int×Int×Int)×List (Int×Int)×List Bool×List Bool×List (Int×Int)×List Int×Bool):=Option.bind (m_impl_WorldValid x0 x1 x2 x3 x4 x5 x6) (fun p104=>(bif p104 then Option.bind (m_impl_World_clone x0 x1 x2 x3 x4 x5 x6) (fun p106=>Option.bind (Option.bind (m_impl_Net_hasLine x0 x1 x8) (fun p141=>(bif p141 then Option.bind (m_impl_World_do p106.1 p106.2.1 p106.2.2.1 p106.2.2.2.1 p106.2.2.2.2.1 p106.2.2.2.2.2.1 p106.2.2.2.2.2.2 x7 x8 x9) (fun p143=>some (!p143.1,p143.2.1,p143.2.2.1,p143.2.2.2.1,p143.2.2.2.2.1,p143.2.2.2.2.2.1,p143.2.2.2.2.2.2.1,p143.2.2.2.2.2.2.2)) else some (true,p106.1,p106.2.1,p106.2.2.1,p106.2.2.2.1,p106.2.2.2.2.1,p106.2.2.2.2.2.1,p106.2.2.2.2.2.2)))) (fun p126=>(bif p126.1 then Option.bind (m_impl_World_clone x0 x1 x2 x3 x4 x5 x6) (fun p163=>some (p163.1,p163.2.1,p163.2.2.1,p163.2.2.2.1,p163.2.2.2.2.1,p163.2.2.2.2.2.1,p163.2.2.2.2.2.2,false)) else some (p126.2.1,p126.2.2.1,p126.2.2.2.1,p126.2.2.2.2.1,p126.2.2.2.2.2.1,p126.2.2.2.2.2.2.1,p126.2.2.2.2.2.2.2,true)))) else some (0,([]:List (Int×Int×Int)),([]:List (Int×Int)),([]:List Bool),([]:List Bool),([]:List (Int×Int)),([]:List Int),false)))
def m_impl_Work_returns_l1s (x2:List (Int×Int)) (rec:(List (Int×Int×Int)×Int) → Option ((List (Int×Int×Int)))) (p107:(List (Int×Int×Int)×Int)):Option ((List (Int×Int×Int))):=(bif ltB p107.2 (x2.length:Int) then chk (ixB p107.2 x2.length) (chk (apB p107.1.length ([(5,(x2.getD p107.2.toNat ((0,0):Int×Int)).2,(x2.getD p107.2.toNat ((0,0):Int×Int)).1)]:List (Int×Int×Int)).length) (rec (p107.1++([(5,(x2.getD p107.2.toNat ((0,0):Int×Int)).2,(x2.getD p107.2.toNat ((0,0):Int×Int)).1)]:List (Int×Int×Int)),w64 (p107.2+1)))) else some p107.1)
def m_impl_Work_returns_l1 (x2:List (Int×Int)):Nat → (List (Int×Int×Int)×Int) → Option ((List (Int×Int×Int))):=itr (m_impl_Work_returns_l1s x2)
theorem e_impl_Work_returns_l1 (x2:List (Int×Int)) (n:Nat) (p:(List (Int×Int×Int)×Int)) : m_impl_Work_returns_l1 x2 (n+1) p=m_impl_Work_returns_l1s x2 (m_impl_Work_returns_l1 x2 n) p:=rfl
def m_impl_Work_returns (x0:List Bool) (x1:List Bool) (x2:List (Int×Int)):Option (List (Int×Int×Int)):=Option.bind (m_impl_Work_returns_l1 x2 FUEL (([]:List (Int×Int×Int)),0)) (fun p102=>some p102)
def m_impl_deedsFor_l1s (x0:Int) (x1:List Bool) (x2:Bool) (rec:(List (Int×Int×Int)×Int) → Option ((List (Int×Int×Int)))) (p106:(List (Int×Int×Int)×Int)):Option ((List (Int×Int×Int))):=(bif ltB p106.2 (x1.length:Int) then chk (ixB p106.2 x1.length) (Option.bind (bif (x1.getD p106.2.toNat false) == x2 then chk (apB p106.1.length ([(x0,p106.2,0)]:List (Int×Int×Int)).length) (some (p106.1++([(x0,p106.2,0)]:List (Int×Int×Int)))) else some p106.1) (fun p111=>rec (p111,w64 (p106.2+1)))) else some p106.1)
def m_impl_deedsFor_l1 (x0:Int) (x1:List Bool) (x2:Bool):Nat → (List (Int×Int×Int)×Int) → Option ((List (Int×Int×Int))):=itr (m_impl_deedsFor_l1s x0 x1 x2)
theorem e_impl_deedsFor_l1 (x0:Int) (x1:List Bool) (x2:Bool) (n:Nat) (p:(List (Int×Int×Int)×Int)) : m_impl_deedsFor_l1 x0 x1 x2 (n+1) p=m_impl_deedsFor_l1s x0 x1 x2 (m_impl_deedsFor_l1 x0 x1 x2 n) p:=rfl
def m_impl_deedsFor (x0:Int) (x1:List Bool) (x2:Bool):Option (List (Int×Int×Int)):=Option.bind (m_impl_deedsFor_l1 x0 x1 x2 FUEL (([]:List (Int×Int×Int)),0)) (fun p101=>some p101)
def m_impl_stateOf_l1s (x0:Int) (x1:Int) (rec:(List Bool×Int) → Option ((List Bool))) (p107:(List Bool×Int)):Option ((List Bool)):=(bif ltB p107.2 (x1.toNat:Int) then chk (nnB p107.2) (chk (ixB p107.2 x1.toNat) (rec (p107.1.set p107.2.toNat ((bitsAnd .i64 (bitsShr .i64 x0 p107.2) 1) == 1),w64 (p107.2+1)))) else some p107.1)
def m_impl_stateOf_l1 (x0:Int) (x1:Int):Nat → (List Bool×Int) → Option ((List Bool)):=itr (m_impl_stateOf_l1s x0 x1)
theorem e_impl_stateOf_l1 (x0:Int) (x1:Int) (n:Nat) (p:(List Bool×Int)) : m_impl_stateOf_l1 x0 x1 (n+1) p=m_impl_stateOf_l1s x0 x1 (m_impl_stateOf_l1 x0 x1 n) p:=rfl
def m_impl_stateOf (x0:Int) (x1:Int):Option (List Bool):=chk (mkB x1) (Option.bind (m_impl_stateOf_l1 x0 x1 FUEL (List.replicate x1.toNat false,0)) (fun p103=>some p103))
def m_impl_unionOf_l1s (x1:List (Int×Int×Int)) (x2:List Bool) (rec:(List Int×Int) → Option ((List Int))) (p110:(List Int×Int)):Option ((List Int)):=(bif ltB p110.2 (x1.length:Int) then chk (ixB p110.2 x1.length) (chk (ixB p110.2 x2.length) (Option.bind (bif x2.getD p110.2.toNat false then Option.bind (m_impl_union_join p110.1 ((x1.getD p110.2.toNat ((0,0,0):Int×Int×Int)).1) ((x1.getD p110.2.toNat ((0,0,0):Int×Int×Int)).2.1)) (fun p121=>some p121) else some p110.1) (fun p116=>rec (p116,w64 (p110.2+1))))) else some p110.1)
def m_impl_unionOf_l1 (x1:List (Int×Int×Int)) (x2:List Bool):Nat → (List Int×Int) → Option ((List Int)):=itr (m_impl_unionOf_l1s x1 x2)
theorem e_impl_unionOf_l1 (x1:List (Int×Int×Int)) (x2:List Bool) (n:Nat) (p:(List Int×Int)) : m_impl_unionOf_l1 x1 x2 (n+1) p=m_impl_unionOf_l1s x1 x2 (m_impl_unionOf_l1 x1 x2 n) p:=rfl
def m_impl_unionOf (x0:Int) (x1:List (Int×Int×Int)) (x2:List Bool):Option (List Int):=Option.bind (m_impl_newUnion x0) (fun p102=>Option.bind (m_impl_unionOf_l1 x1 x2 FUEL (p102,0)) (fun p106=>some p106))
def m_impl_sumsOf_l1s (x3:List (Int×Int)) (rec:(List Int×Int×Int×Int×Int×Int×Int×Int×Int×Int×Int×Int×Int×Int×Int×Int×Int×Int) → Option ((Int×Int×Int×Int×Int×Int×Int×Int×Int×Int×Int×Int×Int×Int×Int×Int))) (p111:(List Int×Int×Int×Int×Int×Int×Int×Int×Int×Int×Int×Int×Int×Int×Int×Int×Int×Int)):Option ((Int×Int×Int×Int×Int×Int×Int×Int×Int×Int×Int×Int×Int×Int×Int×Int)):=(bif ltB p111.2.1 (x3.length:Int) then chk (ixB p111.2.1 x3.length) (Option.bind (m_impl_union_find p111.1 p111.2.1) (fun p116=>chk (ixB p116.1 8) (chk (ixB p116.1 8) (chk (ixB p116.1 8) (chk (ixB p116.1 8) (rec (p116.2,w64 (p111.2.1+1),bif p116.1 == 0 then (w64 ((([p111.2.2.1,p111.2.2.2.1,p111.2.2.2.2.1,p111.2.2.2.2.2.1,p111.2.2.2.2.2.2.1,p111.2.2.2.2.2.2.2.1,p111.2.2.2.2.2.2.2.2.1,p111.2.2.2.2.2.2.2.2.2.1]:List Int).getD p116.1.toNat 0)+((x3.getD p111.2.1.toNat ((0,0):Int×Int)).1))) else p111.2.2.1,bif p116.1 == 1 then (w64 ((([p111.2.2.1,p111.2.2.2.1,p111.2.2.2.2.1,p111.2.2.2.2.2.1,p111.2.2.2.2.2.2.1,p111.2.2.2.2.2.2.2.1,p111.2.2.2.2.2.2.2.2.1,p111.2.2.2.2.2.2.2.2.2.1]:List Int).getD p116.1.toNat 0)+((x3.getD p111.2.1.toNat ((0,0):Int×Int)).1))) else p111.2.2.2.1,bif p116.1 == 2 then (w64 ((([p111.2.2.1,p111.2.2.2.1,p111.2.2.2.2.1,p111.2.2.2.2.2.1,p111.2.2.2.2.2.2.1,p111.2.2.2.2.2.2.2.1,p111.2.2.2.2.2.2.2.2.1,p111.2.2.2.2.2.2.2.2.2.1]:List Int).getD p116.1.toNat 0)+((x3.getD p111.2.1.toNat ((0,0):Int×Int)).1))) else p111.2.2.2.2.1,bif p116.1 == 3 then (w64 ((([p111.2.2.1,p111.2.2.2.1,p111.2.2.2.2.1,p111.2.2.2.2.2.1,p111.2.2.2.2.2.2.1,p111.2.2.2.2.2.2.2.1,p111.2.2.2.2.2.2.2.2.1,p111.2.2.2.2.2.2.2.2.2.1]:List Int).getD p116.1.toNat 0)+((x3.getD p111.2.1.toNat ((0,0):Int×Int)).1))) else p111.2.2.2.2.2.1,bif p116.1 == 4 then (w64 ((([p111.2.2.1,p111.2.2.2.1,p111.2.2.2.2.1,p111.2.2.2.2.2.1,p111.2.2.2.2.2.2.1,p111.2.2.2.2.2.2.2.1,p111.2.2.2.2.2.2.2.2.1,p111.2.2.2.2.2.2.2.2.2.1]:List Int).getD p116.1.toNat 0)+((x3.getD p111.2.1.toNat ((0,0):Int×Int)).1))) else p111.2.2.2.2.2.2.1,bif p116.1 == 5 then (w64 ((([p111.2.2.1,p111.2.2.2.1,p111.2.2.2.2.1,p111.2.2.2.2.2.1,p111.2.2.2.2.2.2.1,p111.2.2.2.2.2.2.2.1,p111.2.2.2.2.2.2.2.2.1,p111.2.2.2.2.2.2.2.2.2.1]:List Int).getD p116.1.toNat 0)+((x3.getD p111.2.1.toNat ((0,0):Int×Int)).1))) else p111.2.2.2.2.2.2.2.1,bif p116.1 == 6 then (w64 ((([p111.2.2.1,p111.2.2.2.1,p111.2.2.2.2.1,p111.2.2.2.2.2.1,p111.2.2.2.2.2.2.1,p111.2.2.2.2.2.2.2.1,p111.2.2.2.2.2.2.2.2.1,p111.2.2.2.2.2.2.2.2.2.1]:List Int).getD p116.1.toNat 0)+((x3.getD p111.2.1.toNat ((0,0):Int×Int)).1))) else p111.2.2.2.2.2.2.2.2.1,bif p116.1 == 7 then (w64 ((([p111.2.2.1,p111.2.2.2.1,p111.2.2.2.2.1,p111.2.2.2.2.2.1,p111.2.2.2.2.2.2.1,p111.2.2.2.2.2.2.2.1,p111.2.2.2.2.2.2.2.2.1,p111.2.2.2.2.2.2.2.2.2.1]:List Int).getD p116.1.toNat 0)+((x3.getD p111.2.1.toNat ((0,0):Int×Int)).1))) else p111.2.2.2.2.2.2.2.2.2.1,bif p116.1 == 0 then (w64 ((([p111.2.2.2.2.2.2.2.2.2.2.1,p111.2.2.2.2.2.2.2.2.2.2.2.1,p111.2.2.2.2.2.2.2.2.2.2.2.2.1,p111.2.2.2.2.2.2.2.2.2.2.2.2.2.1,p111.2.2.2.2.2.2.2.2.2.2.2.2.2.2.1,p111.2.2.2.2.2.2.2.2.2.2.2.2.2.2.2.1,p111.2.2.2.2.2.2.2.2.2.2.2.2.2.2.2.2.1,p111.2.2.2.2.2.2.2.2.2.2.2.2.2.2.2.2.2]:List Int).getD p116.1.toNat 0)+((x3.getD p111.2.1.toNat ((0,0):Int×Int)).2))) else p111.2.2.2.2.2.2.2.2.2.2.1,bif p116.1 == 1 then (w64 ((([p111.2.2.2.2.2.2.2.2.2.2.1,p111.2.2.2.2.2.2.2.2.2.2.2.1,p111.2.2.2.2.2.2.2.2.2.2.2.2.1,p111.2.2.2.2.2.2.2.2.2.2.2.2.2.1,p111.2.2.2.2.2.2.2.2.2.2.2.2.2.2.1,p111.2.2.2.2.2.2.2.2.2.2.2.2.2.2.2.1,p111.2.2.2.2.2.2.2.2.2.2.2.2.2.2.2.2.1,p111.2.2.2.2.2.2.2.2.2.2.2.2.2.2.2.2.2]:List Int).getD p116.1.toNat 0)+((x3.getD p111.2.1.toNat ((0,0):Int×Int)).2))) else p111.2.2.2.2.2.2.2.2.2.2.2.1,bif p116.1 == 2 then (w64 ((([p111.2.2.2.2.2.2.2.2.2.2.1,p111.2.2.2.2.2.2.2.2.2.2.2.1,p111.2.2.2.2.2.2.2.2.2.2.2.2.1,p111.2.2.2.2.2.2.2.2.2.2.2.2.2.1,p111.2.2.2.2.2.2.2.2.2.2.2.2.2.2.1,p111.2.2.2.2.2.2.2.2.2.2.2.2.2.2.2.1,p111.2.2.2.2.2.2.2.2.2.2.2.2.2.2.2.2.1,p111.2.2.2.2.2.2.2.2.2.2.2.2.2.2.2.2.2]:List Int).getD p116.1.toNat 0)+((x3.getD p111.2.1.toNat ((0,0):Int×Int)).2))) else p111.2.2.2.2.2.2.2.2.2.2.2.2.1,bif p116.1 == 3 then (w64 ((([p111.2.2.2.2.2.2.2.2.2.2.1,p111.2.2.2.2.2.2.2.2.2.2.2.1,p111.2.2.2.2.2.2.2.2.2.2.2.2.1,p111.2.2.2.2.2.2.2.2.2.2.2.2.2.1,p111.2.2.2.2.2.2.2.2.2.2.2.2.2.2.1,p111.2.2.2.2.2.2.2.2.2.2.2.2.2.2.2.1,p111.2.2.2.2.2.2.2.2.2.2.2.2.2.2.2.2.1,p111.2.2.2.2.2.2.2.2.2.2.2.2.2.2.2.2.2]:List Int).getD p116.1.toNat 0)+((x3.getD p111.2.1.toNat ((0,0):Int×Int)).2))) else p111.2.2.2.2.2.2.2.2.2.2.2.2.2.1,bif p116.1 == 4 then (w64 ((([p111.2.2.2.2.2.2.2.2.2.2.1,p111.2.2.2.2.2.2.2.2.2.2.2.1,p111.2.2.2.2.2.2.2.2.2.2.2.2.1,p111.2.2.2.2.2.2.2.2.2.2.2.2.2.1,p111.2.2.2.2.2.2.2.2.2.2.2.2.2.2.1,p111.2.2.2.2.2.2.2.2.2.2.2.2.2.2.2.1,p111.2.2.2.2.2.2.2.2.2.2.2.2.2.2.2.2.1,p111.2.2.2.2.2.2.2.2.2.2.2.2.2.2.2.2.2]:List Int).getD p116.1.toNat 0)+((x3.getD p111.2.1.toNat ((0,0):Int×Int)).2))) else p111.2.2.2.2.2.2.2.2.2.2.2.2.2.2.1,bif p116.1 == 5 then (w64 ((([p111.2.2.2.2.2.2.2.2.2.2.1,p111.2.2.2.2.2.2.2.2.2.2.2.1,p111.2.2.2.2.2.2.2.2.2.2.2.2.1,p111.2.2.2.2.2.2.2.2.2.2.2.2.2.1,p111.2.2.2.2.2.2.2.2.2.2.2.2.2.2.1,p111.2.2.2.2.2.2.2.2.2.2.2.2.2.2.2.1,p111.2.2.2.2.2.2.2.2.2.2.2.2.2.2.2.2.1,p111.2.2.2.2.2.2.2.2.2.2.2.2.2.2.2.2.2]:List Int).getD p116.1.toNat 0)+((x3.getD p111.2.1.toNat ((0,0):Int×Int)).2))) else p111.2.2.2.2.2.2.2.2.2.2.2.2.2.2.2.1,bif p116.1 == 6 then (w64 ((([p111.2.2.2.2.2.2.2.2.2.2.1,p111.2.2.2.2.2.2.2.2.2.2.2.1,p111.2.2.2.2.2.2.2.2.2.2.2.2.1,p111.2.2.2.2.2.2.2.2.2.2.2.2.2.1,p111.2.2.2.2.2.2.2.2.2.2.2.2.2.2.1,p111.2.2.2.2.2.2.2.2.2.2.2.2.2.2.2.1,p111.2.2.2.2.2.2.2.2.2.2.2.2.2.2.2.2.1,p111.2.2.2.2.2.2.2.2.2.2.2.2.2.2.2.2.2]:List Int).getD p116.1.toNat 0)+((x3.getD p111.2.1.toNat ((0,0):Int×Int)).2))) else p111.2.2.2.2.2.2.2.2.2.2.2.2.2.2.2.2.1,bif p116.1 == 7 then (w64 ((([p111.2.2.2.2.2.2.2.2.2.2.1,p111.2.2.2.2.2.2.2.2.2.2.2.1,p111.2.2.2.2.2.2.2.2.2.2.2.2.1,p111.2.2.2.2.2.2.2.2.2.2.2.2.2.1,p111.2.2.2.2.2.2.2.2.2.2.2.2.2.2.1,p111.2.2.2.2.2.2.2.2.2.2.2.2.2.2.2.1,p111.2.2.2.2.2.2.2.2.2.2.2.2.2.2.2.2.1,p111.2.2.2.2.2.2.2.2.2.2.2.2.2.2.2.2.2]:List Int).getD p116.1.toNat 0)+((x3.getD p111.2.1.toNat ((0,0):Int×Int)).2))) else p111.2.2.2.2.2.2.2.2.2.2.2.2.2.2.2.2.2))))))) else some (p111.2.2.1,p111.2.2.2.1,p111.2.2.2.2.1,p111.2.2.2.2.2.1,p111.2.2.2.2.2.2.1,p111.2.2.2.2.2.2.2.1,p111.2.2.2.2.2.2.2.2.1,p111.2.2.2.2.2.2.2.2.2.1,p111.2.2.2.2.2.2.2.2.2.2.1,p111.2.2.2.2.2.2.2.2.2.2.2.1,p111.2.2.2.2.2.2.2.2.2.2.2.2.1,p111.2.2.2.2.2.2.2.2.2.2.2.2.2.1,p111.2.2.2.2.2.2.2.2.2.2.2.2.2.2.1,p111.2.2.2.2.2.2.2.2.2.2.2.2.2.2.2.1,p111.2.2.2.2.2.2.2.2.2.2.2.2.2.2.2.2.1,p111.2.2.2.2.2.2.2.2.2.2.2.2.2.2.2.2.2))
def m_impl_sumsOf_l1 (x3:List (Int×Int)):Nat → (List Int×Int×Int×Int×Int×Int×Int×Int×Int×Int×Int×Int×Int×Int×Int×Int×Int×Int) → Option ((Int×Int×Int×Int×Int×Int×Int×Int×Int×Int×Int×Int×Int×Int×Int×Int)):=itr (m_impl_sumsOf_l1s x3)
theorem e_impl_sumsOf_l1 (x3:List (Int×Int)) (n:Nat) (p:(List Int×Int×Int×Int×Int×Int×Int×Int×Int×Int×Int×Int×Int×Int×Int×Int×Int×Int)) : m_impl_sumsOf_l1 x3 (n+1) p=m_impl_sumsOf_l1s x3 (m_impl_sumsOf_l1 x3 n) p:=rfl
def m_impl_sumsOf (x0:Int) (x1:List (Int×Int×Int)) (x2:List Bool) (x3:List (Int×Int)):Option (Int×Int×Int×Int×Int×Int×Int×Int×Int×Int×Int×Int×Int×Int×Int×Int):=Option.bind (m_impl_unionOf x0 x1 x2) (fun p104=>Option.bind (m_impl_sumsOf_l1 x3 FUEL (p104,0,0,0,0,0,0,0,0,0,0,0,0,0,0,0,0,0)) (fun p108=>some (p108.1,p108.2.1,p108.2.2.1,p108.2.2.2.1,p108.2.2.2.2.1,p108.2.2.2.2.2.1,p108.2.2.2.2.2.2.1,p108.2.2.2.2.2.2.2.1,p108.2.2.2.2.2.2.2.2.1,p108.2.2.2.2.2.2.2.2.2.1,p108.2.2.2.2.2.2.2.2.2.2.1,p108.2.2.2.2.2.2.2.2.2.2.2.1,p108.2.2.2.2.2.2.2.2.2.2.2.2.1,p108.2.2.2.2.2.2.2.2.2.2.2.2.2.1,p108.2.2.2.2.2.2.2.2.2.2.2.2.2.2.1,p108.2.2.2.2.2.2.2.2.2.2.2.2.2.2.2)))
def m_impl_servedLoad_l1s (p102:Int×Int×Int×Int×Int×Int×Int×Int×Int×Int×Int×Int×Int×Int×Int×Int) (rec:(Int×Int) → Option (Int)) (p107:(Int×Int)):Option (Int):=(bif ltB p107.2 8 then chk (ixB p107.2 8) (chk (ixB p107.2 8) (Option.bind (bif leB (([p102.2.2.2.2.2.2.2.2.1,p102.2.2.2.2.2.2.2.2.2.1,p102.2.2.2.2.2.2.2.2.2.2.1,p102.2.2.2.2.2.2.2.2.2.2.2.1,p102.2.2.2.2.2.2.2.2.2.2.2.2.1,p102.2.2.2.2.2.2.2.2.2.2.2.2.2.1,p102.2.2.2.2.2.2.2.2.2.2.2.2.2.2.1,p102.2.2.2.2.2.2.2.2.2.2.2.2.2.2.2]:List Int).getD p107.2.toNat (0:Int)) (([p102.1,p102.2.1,p102.2.2.1,p102.2.2.2.1,p102.2.2.2.2.1,p102.2.2.2.2.2.1,p102.2.2.2.2.2.2.1,p102.2.2.2.2.2.2.2.1]:List Int).getD p107.2.toNat 0) then some (w64 (p107.1+(([p102.2.2.2.2.2.2.2.2.1,p102.2.2.2.2.2.2.2.2.2.1,p102.2.2.2.2.2.2.2.2.2.2.1,p102.2.2.2.2.2.2.2.2.2.2.2.1,p102.2.2.2.2.2.2.2.2.2.2.2.2.1,p102.2.2.2.2.2.2.2.2.2.2.2.2.2.1,p102.2.2.2.2.2.2.2.2.2.2.2.2.2.2.1,p102.2.2.2.2.2.2.2.2.2.2.2.2.2.2.2]:List Int).getD p107.2.toNat (0:Int)))) else some p107.1) (fun p111=>rec (p111,w64 (p107.2+1))))) else some p107.1)
def m_impl_servedLoad_l1 (p102:Int×Int×Int×Int×Int×Int×Int×Int×Int×Int×Int×Int×Int×Int×Int×Int):Nat → (Int×Int) → Option (Int):=itr (m_impl_servedLoad_l1s p102)
theorem e_impl_servedLoad_l1 (p102:Int×Int×Int×Int×Int×Int×Int×Int×Int×Int×Int×Int×Int×Int×Int×Int) (n:Nat) (p:(Int×Int)) : m_impl_servedLoad_l1 p102 (n+1) p=m_impl_servedLoad_l1s p102 (m_impl_servedLoad_l1 p102 n) p:=rfl
def m_impl_servedLoad (x0:Int) (x1:List (Int×Int×Int)) (x2:List Bool) (x3:List (Int×Int)):Option (Int):=Option.bind (m_impl_sumsOf x0 x1 x2 x3) (fun p102=>Option.bind (m_impl_servedLoad_l1 p102 FUEL (0,0)) (fun p104=>some p104))
def m_impl_Changes_l1s (x0:List Bool) (x1:List Bool) (rec:(List Int×Int) → Option ((List Int))) (p107:(List Int×Int)):Option ((List Int)):=(bif ltB p107.2 (x0.length:Int) then chk (ixB p107.2 x0.length) (chk (ixB p107.2 x1.length) (Option.bind (bif (x0.getD p107.2.toNat false) != (x1.getD p107.2.toNat false) then chk (apB p107.1.length ([p107.2]:List Int).length) (some (p107.1++([p107.2]:List Int))) else some p107.1) (fun p113=>rec (p113,w64 (p107.2+1))))) else some p107.1)
def m_impl_Changes_l1 (x0:List Bool) (x1:List Bool):Nat → (List Int×Int) → Option ((List Int)):=itr (m_impl_Changes_l1s x0 x1)
theorem e_impl_Changes_l1 (x0:List Bool) (x1:List Bool) (n:Nat) (p:(List Int×Int)) : m_impl_Changes_l1 x0 x1 (n+1) p=m_impl_Changes_l1s x0 x1 (m_impl_Changes_l1 x0 x1 n) p:=rfl
def m_impl_Changes (x0:List Bool) (x1:List Bool):Option (List Int):=(bif (x0.length:Int) != (x1.length:Int) then some ([]:List Int) else Option.bind (m_impl_Changes_l1 x0 x1 FUEL (([]:List Int),0)) (fun p102=>some p102))
def m_impl_tree_above (x0:Int) (x1:List (Int×Int×Int)) (x2:List Int) (x3:List Int) (x4:List Int) (x5:Int):Option (Int):=chk (ixB x5 x3.length) (chk (ixB (x3.getD x5.toNat (0:Int)) x1.length) (Option.bind (m_impl_Line_other ((x1.getD ((x3.getD x5.toNat (0:Int)).toNat) ((0,0,0):Int×Int×Int)).1) ((x1.getD ((x3.getD x5.toNat (0:Int)).toNat) ((0,0,0):Int×Int×Int)).2.1) ((x1.getD ((x3.getD x5.toNat (0:Int)).toNat) ((0,0,0):Int×Int×Int)).2.2) x5) (fun p104=>some p104)))
def m_impl_tree_flows_l1s (x0:Int) (x1:List (Int×Int×Int)) (x2:List Int) (x3:List Int) (x4:List Int) (x5:List (Int×Int)) (rec:(List Int×List Int×Int) → Option ((List Int))) (p110:(List Int×List Int×Int)):Option ((List Int)):=(bif leB 0 p110.2.2 then chk (ixB p110.2.2 x4.length) (chk (ixB (x4.getD p110.2.2.toNat (0:Int)) x5.length) (chk (ixB (x4.getD p110.2.2.toNat (0:Int)) x5.length) (chk (ixB (x4.getD p110.2.2.toNat (0:Int)) x5.length) (chk (ixB (x4.getD p110.2.2.toNat (0:Int)) x3.length) (Option.bind (bif leB 0 (x3.getD ((x4.getD p110.2.2.toNat (0:Int)).toNat) (0:Int)) then chk (ixB (x4.getD p110.2.2.toNat (0:Int)) x5.length) (chk (ixB (x3.getD ((x4.getD p110.2.2.toNat (0:Int)).toNat) (0:Int)) x1.length) (Option.bind (m_impl_tree_above x0 x1 x2 x3 x4 (x4.getD p110.2.2.toNat (0:Int))) (fun p127=>chk (ixB p127 x5.length) (chk (ixB (x4.getD p110.2.2.toNat (0:Int)) x5.length) (chk (ixB p127 x5.length) (some (p110.1.set ((x3.getD ((x4.getD p110.2.2.toNat (0:Int)).toNat) (0:Int)).toNat) ((p110.2.1.set ((x4.getD p110.2.2.toNat (0:Int)).toNat) (w64 ((p110.2.1.getD ((x4.getD p110.2.2.toNat (0:Int)).toNat) (0:Int))+((x5.getD ((x4.getD p110.2.2.toNat (0:Int)).toNat) ((0,0):Int×Int)).2)))).getD ((x4.getD p110.2.2.toNat (0:Int)).toNat) (0:Int)),(p110.2.1.set ((x4.getD p110.2.2.toNat (0:Int)).toNat) (w64 ((p110.2.1.getD ((x4.getD p110.2.2.toNat (0:Int)).toNat) (0:Int))+((x5.getD ((x4.getD p110.2.2.toNat (0:Int)).toNat) ((0,0):Int×Int)).2)))).set p127.toNat (w64 (((p110.2.1.set ((x4.getD p110.2.2.toNat (0:Int)).toNat) (w64 ((p110.2.1.getD ((x4.getD p110.2.2.toNat (0:Int)).toNat) (0:Int))+((x5.getD ((x4.getD p110.2.2.toNat (0:Int)).toNat) ((0,0):Int×Int)).2)))).getD p127.toNat (0:Int))+((p110.2.1.set ((x4.getD p110.2.2.toNat (0:Int)).toNat) (w64 ((p110.2.1.getD ((x4.getD p110.2.2.toNat (0:Int)).toNat) (0:Int))+((x5.getD ((x4.getD p110.2.2.toNat (0:Int)).toNat) ((0,0):Int×Int)).2)))).getD ((x4.getD p110.2.2.toNat (0:Int)).toNat) (0:Int))))))))))) else some (p110.1,p110.2.1.set ((x4.getD p110.2.2.toNat (0:Int)).toNat) (w64 ((p110.2.1.getD ((x4.getD p110.2.2.toNat (0:Int)).toNat) (0:Int))+((x5.getD ((x4.getD p110.2.2.toNat (0:Int)).toNat) ((0,0):Int×Int)).2))))) (fun p119=>rec (p119.1,p119.2,w64 (p110.2.2 - 1)))))))) else some p110.1)
def m_impl_tree_flows_l1 (x0:Int) (x1:List (Int×Int×Int)) (x2:List Int) (x3:List Int) (x4:List Int) (x5:List (Int×Int)):Nat → (List Int×List Int×Int) → Option ((List Int)):=itr (m_impl_tree_flows_l1s x0 x1 x2 x3 x4 x5)
theorem e_impl_tree_flows_l1 (x0:Int) (x1:List (Int×Int×Int)) (x2:List Int) (x3:List Int) (x4:List Int) (x5:List (Int×Int)) (n:Nat) (p:(List Int×List Int×Int)) : m_impl_tree_flows_l1 x0 x1 x2 x3 x4 x5 (n+1) p=m_impl_tree_flows_l1s x0 x1 x2 x3 x4 x5 (m_impl_tree_flows_l1 x0 x1 x2 x3 x4 x5 n) p:=rfl
def m_impl_tree_flows (x0:Int) (x1:List (Int×Int×Int)) (x2:List Int) (x3:List Int) (x4:List Int) (x5:List (Int×Int)):Option (List Int):=chk (mkB (x1.length:Int)) (chk (mkB (x5.length:Int)) (Option.bind (m_impl_tree_flows_l1 x0 x1 x2 x3 x4 x5 FUEL (List.replicate x1.length (0:Int),List.replicate x5.length (0:Int),w64 ((x4.length:Int) - 1))) (fun p106=>some p106)))
def m_impl_tree_given_l1s (x2:List Int) (x5:List (Int×Int)) (x6:Int) (rec:(Int×Int) → Option (Int)) (p105:(Int×Int)):Option (Int):=(bif ltB p105.2 (x2.length:Int) then chk (ixB p105.2 x2.length) (Option.bind (bif (x2.getD p105.2.toNat (0:Int)) == x6 then chk (ixB p105.2 x5.length) (some (w64 (p105.1+((x5.getD p105.2.toNat ((0,0):Int×Int)).2)))) else some p105.1) (fun p108=>rec (p108,w64 (p105.2+1)))) else some p105.1)
def m_impl_tree_given_l1 (x2:List Int) (x5:List (Int×Int)) (x6:Int):Nat → (Int×Int) → Option (Int):=itr (m_impl_tree_given_l1s x2 x5 x6)
theorem e_impl_tree_given_l1 (x2:List Int) (x5:List (Int×Int)) (x6:Int) (n:Nat) (p:(Int×Int)) : m_impl_tree_given_l1 x2 x5 x6 (n+1) p=m_impl_tree_given_l1s x2 x5 x6 (m_impl_tree_given_l1 x2 x5 x6 n) p:=rfl
def m_impl_tree_given (x0:Int) (x1:List (Int×Int×Int)) (x2:List Int) (x3:List Int) (x4:List Int) (x5:List (Int×Int)) (x6:Int):Option (Int):=Option.bind (m_impl_tree_given_l1 x2 x5 x6 FUEL (0,0)) (fun p102=>some p102)
def m_impl_tree_good_l1s (x1:List (Int×Int×Int)) (p102:List Int) (rec:Int → Option (Unit ⊕ Bool)) (p109:Int):Option (Unit ⊕ Bool):=(bif ltB p109 (p102.length:Int) then chk (ixB p109 p102.length) (chk (ixB p109 x1.length) ((bif ltB ((x1.getD p109.toNat ((0,0,0):Int×Int×Int)).2.2) (p102.getD p109.toNat (0:Int)) then some (Sum.inr false) else rec (w64 (p109+1))))) else some (Sum.inl ()))
def m_impl_tree_good_l1 (x1:List (Int×Int×Int)) (p102:List Int):Nat → Int → Option (Unit ⊕ Bool):=itr (m_impl_tree_good_l1s x1 p102)
theorem e_impl_tree_good_l1 (x1:List (Int×Int×Int)) (p102:List Int) (n:Nat) (p:Int) : m_impl_tree_good_l1 x1 p102 (n+1) p=m_impl_tree_good_l1s x1 p102 (m_impl_tree_good_l1 x1 p102 n) p:=rfl
def m_impl_tree_good_l2s (x0:Int) (x1:List (Int×Int×Int)) (x2:List Int) (x3:List Int) (x4:List Int) (x5:List (Int×Int)) (rec:Int → Option (Unit ⊕ Bool)) (p117:Int):Option (Unit ⊕ Bool):=(bif ltB p117 (x5.length:Int) then chk (ixB p117 x5.length) (Option.bind (m_impl_tree_given x0 x1 x2 x3 x4 x5 p117) (fun p121=>(bif ltB ((x5.getD p117.toNat ((0,0):Int×Int)).1) p121 then some (Sum.inr false) else rec (w64 (p117+1))))) else some (Sum.inl ()))
def m_impl_tree_good_l2 (x0:Int) (x1:List (Int×Int×Int)) (x2:List Int) (x3:List Int) (x4:List Int) (x5:List (Int×Int)):Nat → Int → Option (Unit ⊕ Bool):=itr (m_impl_tree_good_l2s x0 x1 x2 x3 x4 x5)
theorem e_impl_tree_good_l2 (x0:Int) (x1:List (Int×Int×Int)) (x2:List Int) (x3:List Int) (x4:List Int) (x5:List (Int×Int)) (n:Nat) (p:Int) : m_impl_tree_good_l2 x0 x1 x2 x3 x4 x5 (n+1) p=m_impl_tree_good_l2s x0 x1 x2 x3 x4 x5 (m_impl_tree_good_l2 x0 x1 x2 x3 x4 x5 n) p:=rfl
def m_impl_tree_good (x0:Int) (x1:List (Int×Int×Int)) (x2:List Int) (x3:List Int) (x4:List Int) (x5:List (Int×Int)):Option (Bool):=Option.bind (m_impl_tree_flows x0 x1 x2 x3 x4 x5) (fun p102=>Option.bind (m_impl_tree_good_l1 x1 p102 FUEL 0:Option (Unit ⊕ Bool)) (Sum.elim (fun (p106:Unit)=>Option.bind (m_impl_tree_good_l2 x0 x1 x2 x3 x4 x5 FUEL 0:Option (Unit ⊕ Bool)) (Sum.elim (fun (p114:Unit)=>some true) (fun (r:Bool)=>some r))) (fun (r:Bool)=>some r)))
def m_impl_NetGood (x0:Int) (x1:List (Int×Int×Int)) (x2:List Bool) (x3:List (Int×Int)):Option (Bool):=Option.bind (m_impl_treeOf x0 x1 x2 x3) (fun p102=>Option.bind (gb p102.2.2.2.2.2 (m_impl_tree_good p102.1 (ifL p102.2.1 x1) p102.2.2.1 p102.2.2.2.1 p102.2.2.2.2.1 x3)) (fun p113=>some (p102.2.2.2.2.2 && p113)))
def m_impl_BestState_l1s (x0:Int) (x1:List (Int×Int×Int)) (x4:List Int) (rec:(Int×Int) → Option (Int)) (p107:(Int×Int)):Option (Int):=(bif ltB p107.2 (x4.length:Int) then chk (ixB p107.2 x4.length) (Option.bind (m_impl_Net_hasLine x0 x1 (x4.getD p107.2.toNat (0:Int))) (fun p110=>Option.bind (bif p110 then chk (nnB (x4.getD p107.2.toNat (0:Int))) (some (bitsOr .i64 p107.1 (bitsShl .i64 1 (x4.getD p107.2.toNat (0:Int))))) else some p107.1) (fun p111=>rec (p111,w64 (p107.2+1))))) else some p107.1)
def m_impl_BestState_l1 (x0:Int) (x1:List (Int×Int×Int)) (x4:List Int):Nat → (Int×Int) → Option (Int):=itr (m_impl_BestState_l1s x0 x1 x4)
def m_impl_BestState_l2s (x0:Int) (x1:List (Int×Int×Int)) (x2:List Bool) (x3:List (Int×Int)) (p104:Int) (rec:(List Bool×Int×Int×Int) → Option ((List Bool))) (p123:(List Bool×Int×Int×Int)):Option ((List Bool)):=(bif ltB p123.2.2.2 (bitsShl .i64 1 (x1.length:Int)) then Option.bind (bif (bitsAnd .i64 p123.2.2.2 p104) != 0 then some (p123.1,p123.2.1,p123.2.2.1) else Option.bind (m_impl_stateOf p123.2.2.2 (x1.length:Int)) (fun p135=>Option.bind (m_impl_servedLoad x0 x1 p135 x3) (fun p139=>(bif ltB p139 p123.2.1 then some (p123.1,p123.2.1,p123.2.2.1) else Option.bind (m_impl_Changes x2 p135) (fun p141=>Option.bind (gb ((ltB p123.2.1 p139) || (ltB (p141.length:Int) p123.2.2.1)) (m_impl_NetGood x0 x1 p135 x3)) (fun p145=>Option.bind (bif ((ltB p123.2.1 p139) || (ltB (p141.length:Int) p123.2.2.1)) && p145 then chk (!(List.isEmpty p135)) (some (p135,p139,(p141.length:Int))) else some (p123.1,p123.2.1,p123.2.2.1)) (fun p146=>some (p146.1,p146.2.1,p146.2.2)))))))) (fun p128=>rec (p128.1,p128.2.1,p128.2.2,w64 (p123.2.2.2+1))) else some p123.1)
def m_impl_BestState_l2 (x0:Int) (x1:List (Int×Int×Int)) (x2:List Bool) (x3:List (Int×Int)) (p104:Int):Nat → (List Bool×Int×Int×Int) → Option ((List Bool)):=itr (m_impl_BestState_l2s x0 x1 x2 x3 p104)
theorem e_impl_BestState_l2 (x0:Int) (x1:List (Int×Int×Int)) (x2:List Bool) (x3:List (Int×Int)) (p104:Int) (n:Nat) (p:(List Bool×Int×Int×Int)) : m_impl_BestState_l2 x0 x1 x2 x3 p104 (n+1) p=m_impl_BestState_l2s x0 x1 x2 x3 p104 (m_impl_BestState_l2 x0 x1 x2 x3 p104 n) p:=rfl
def m_impl_BestState (x0:Int) (x1:List (Int×Int×Int)) (x2:List Bool) (x3:List (Int×Int)) (x4:List Int):Option (List Bool×Bool):=Option.bind (m_impl_fedValid x0 x1 x2 x3) (fun p102=>(bif p102 then Option.bind (m_impl_BestState_l1 x0 x1 x4 FUEL (0,0)) (fun p104=>chk (nnB (x1.length:Int)) (Option.bind (m_impl_BestState_l2 x0 x1 x2 x3 p104 FUEL (([]:List Bool),-1,0,0)) (fun p117=>some (p117,!(List.isEmpty p117))))) else some (([]:List Bool),false)))
def m_impl_OrderTo_l1s (x0:List Bool) (x1:List Bool) (rec:(List (Int×Bool)×List (Int×Bool)×Int) → Option ((List (Int×Bool)×List (Int×Bool)))) (p109:(List (Int×Bool)×List (Int×Bool)×Int)):Option ((List (Int×Bool)×List (Int×Bool))):=(bif ltB p109.2.2 (x0.length:Int) then chk (ixB p109.2.2 x0.length) (chk (!(x0.getD p109.2.2.toNat false) || ixB p109.2.2 x1.length) (Option.bind (bif (x0.getD p109.2.2.toNat false) && (!(x1.getD p109.2.2.toNat false)) then chk (apB p109.1.length ([(p109.2.2,false)]:List (Int×Bool)).length) (some (p109.1++([(p109.2.2,false)]:List (Int×Bool)),p109.2.1)) else chk (ixB p109.2.2 x1.length) (chk (!(x1.getD p109.2.2.toNat false) || ixB p109.2.2 x0.length) (Option.bind (bif (x1.getD p109.2.2.toNat false) && (!(x0.getD p109.2.2.toNat false)) then chk (apB p109.2.1.length ([(p109.2.2,true)]:List (Int×Bool)).length) (some (p109.2.1++([(p109.2.2,true)]:List (Int×Bool)))) else some p109.2.1) (fun p127=>some (p109.1,p127))))) (fun p117=>rec (p117.1,p117.2,w64 (p109.2.2+1))))) else some (p109.1,p109.2.1))
def m_impl_OrderTo_l1 (x0:List Bool) (x1:List Bool):Nat → (List (Int×Bool)×List (Int×Bool)×Int) → Option ((List (Int×Bool)×List (Int×Bool))):=itr (m_impl_OrderTo_l1s x0 x1)
theorem e_impl_OrderTo_l1 (x0:List Bool) (x1:List Bool) (n:Nat) (p:(List (Int×Bool)×List (Int×Bool)×Int)) : m_impl_OrderTo_l1 x0 x1 (n+1) p=m_impl_OrderTo_l1s x0 x1 (m_impl_OrderTo_l1 x0 x1 n) p:=rfl
def m_impl_OrderTo (x0:List Bool) (x1:List Bool):Option (List (Int×Bool)):=(bif ((x0.length:Int) != (x1.length:Int)) || (ltB 10 (x0.length:Int)) then some ([]:List (Int×Bool)) else Option.bind (m_impl_OrderTo_l1 x0 x1 FUEL (([]:List (Int×Bool)),([]:List (Int×Bool)),0)) (fun p102=>chk (apB p102.1.length p102.2.length) (some (p102.1++p102.2))))
def m_impl_RestoreOrder (x0:Int) (x1:List (Int×Int×Int)) (x2:List Bool) (x3:List (Int×Int)) (x4:List Int):Option (List (Int×Bool)×Bool):=Option.bind (m_impl_BestState x0 x1 x2 x3 x4) (fun p102=>(bif p102.2 then Option.bind (m_impl_OrderTo x2 p102.1) (fun p107=>some (p107,true)) else some (([]:List (Int×Bool)),false)))
def m_impl_HealDeeds_l2s (x6:List Int) (p118:List (Int×Int×Int)×List Bool×Int) (rec:(List (Int×Int×Int)×Int) → Option ((List (Int×Int×Int)))) (p142:(List (Int×Int×Int)×Int)):Option ((List (Int×Int×Int))):=(bif ltB p142.2 3 then chk (ixB p142.2 3) (chk (apB p142.1.length ([((([4,7,5]:List Int).getD p142.2.toNat (0:Int)),(x6.getD p118.2.2.toNat (0:Int)),0)]:List (Int×Int×Int)).length) (rec (p142.1++([((([4,7,5]:List Int).getD p142.2.toNat (0:Int)),(x6.getD p118.2.2.toNat (0:Int)),0)]:List (Int×Int×Int)),w64 (p142.2+1)))) else some p142.1)
def m_impl_HealDeeds_l2 (x6:List Int) (p118:List (Int×Int×Int)×List Bool×Int):Nat → (List (Int×Int×Int)×Int) → Option ((List (Int×Int×Int))):=itr (m_impl_HealDeeds_l2s x6 p118)
theorem e_impl_HealDeeds_l2 (x6:List Int) (p118:List (Int×Int×Int)×List Bool×Int) (n:Nat) (p:(List (Int×Int×Int)×Int)) : m_impl_HealDeeds_l2 x6 p118 (n+1) p=m_impl_HealDeeds_l2s x6 p118 (m_impl_HealDeeds_l2 x6 p118 n) p:=rfl
def m_impl_HealDeeds_l1s (x6:List Int) (p108:List Bool) (rec:(List (Int×Int×Int)×List Bool×Int) → Option ((List (Int×Int×Int)×List Bool))) (p118:(List (Int×Int×Int)×List Bool×Int)):Option ((List (Int×Int×Int)×List Bool)):=(bif ltB p118.2.2 (x6.length:Int) then chk (ixB p118.2.2 x6.length) (chk (ixB (x6.getD p118.2.2.toNat (0:Int)) p108.length) (Option.bind (bif p118.2.1.getD ((x6.getD p118.2.2.toNat (0:Int)).toNat) false then some (p118.1,p118.2.1) else chk (apB p118.1.length ([(2,(x6.getD p118.2.2.toNat (0:Int)),0)]:List (Int×Int×Int)).length) (chk (ixB (x6.getD p118.2.2.toNat (0:Int)) p108.length) (some (p118.1++([(2,(x6.getD p118.2.2.toNat (0:Int)),0)]:List (Int×Int×Int)),p118.2.1.set ((x6.getD p118.2.2.toNat (0:Int)).toNat) true)))) (fun p125=>Option.bind (m_impl_HealDeeds_l2 x6 p118 FUEL (p125.1,0)) (fun p137=>rec (p137,p125.2,w64 (p118.2.2+1)))))) else some (p118.1,p118.2.1))
def m_impl_HealDeeds_l1 (x6:List Int) (p108:List Bool):Nat → (List (Int×Int×Int)×List Bool×Int) → Option ((List (Int×Int×Int)×List Bool)):=itr (m_impl_HealDeeds_l1s x6 p108)
theorem e_impl_HealDeeds_l1 (x6:List Int) (p108:List Bool) (n:Nat) (p:(List (Int×Int×Int)×List Bool×Int)) : m_impl_HealDeeds_l1 x6 p108 (n+1) p=m_impl_HealDeeds_l1s x6 p108 (m_impl_HealDeeds_l1 x6 p108 n) p:=rfl
def m_impl_HealDeeds_l3s (p158:List (Int×Bool)×Bool) (rec:(List (Int×Int×Int)×Int) → Option ((List (Int×Int×Int)))) (p167:(List (Int×Int×Int)×Int)):Option ((List (Int×Int×Int))):=(bif ltB p167.2 (p158.1.length:Int) then chk (ixB p167.2 p158.1.length) (Option.bind (bif (p158.1.getD p167.2.toNat ((0,false):Int×Bool)).2 then some 0 else some 1) (fun p173=>chk (apB p167.1.length ([(p173,(p158.1.getD p167.2.toNat ((0,false):Int×Bool)).1,0)]:List (Int×Int×Int)).length) (rec (p167.1++([(p173,(p158.1.getD p167.2.toNat ((0,false):Int×Bool)).1,0)]:List (Int×Int×Int)),w64 (p167.2+1))))) else some p167.1)
def m_impl_HealDeeds_l3 (p158:List (Int×Bool)×Bool):Nat → (List (Int×Int×Int)×Int) → Option ((List (Int×Int×Int))):=itr (m_impl_HealDeeds_l3s p158)
theorem e_impl_HealDeeds_l3 (p158:List (Int×Bool)×Bool) (n:Nat) (p:(List (Int×Int×Int)×Int)) : m_impl_HealDeeds_l3 p158 (n+1) p=m_impl_HealDeeds_l3s p158 (m_impl_HealDeeds_l3 p158 n) p:=rfl
def m_impl_HealDeeds (x0:Int) (x1:List (Int×Int×Int)) (x2:List (Int×Int)) (x3:List Bool) (x4:List Bool) (x5:List (Int×Int)) (x6:List Int):Option (List (Int×Int×Int)):=Option.bind (m_impl_WorldValid x0 x1 x2 x3 x4 x5 x6) (fun p102=>(bif p102 then Option.bind (m_impl_Work_returns x3 x4 x5) (fun p104=>Option.bind (m_slices_Clone_bool_bool x4) (fun p108=>Option.bind (m_impl_HealDeeds_l1 x6 p108 FUEL (p104,p108,0)) (fun p112=>Option.bind (m_impl_deedsFor 3 p112.2 true) (fun p151=>chk (apB p112.1.length p151.length) (Option.bind (m_impl_RestoreOrder x0 x1 x3 x2 ([]:List Int)) (fun p158=>Option.bind (m_impl_HealDeeds_l3 p158 FUEL (p112.1++p151,0)) (fun p162=>some p162))))))) else some ([]:List (Int×Int×Int))))
def m_impl_WorldRun_l1s (x7:List (Int×Int×Int)) (rec:(Int×Int×Int×List (Int×Int×Int)×List (Int×Int)×List Bool×List Bool×List (Int×Int)×List Int) → Option ((Int×Int×List (Int×Int×Int)×List (Int×Int)×List Bool×List Bool×List (Int×Int)×List Int))) (p140:(Int×Int×Int×List (Int×Int×Int)×List (Int×Int)×List Bool×List Bool×List (Int×Int)×List Int)):Option ((Int×Int×List (Int×Int×Int)×List (Int×Int)×List Bool×List Bool×List (Int×Int)×List Int)):=(bif ltB p140.2.1 (x7.length:Int) then chk (ixB p140.2.1 x7.length) (Option.bind (m_impl_WorldDo p140.2.2.1 p140.2.2.2.1 p140.2.2.2.2.1 p140.2.2.2.2.2.1 p140.2.2.2.2.2.2.1 p140.2.2.2.2.2.2.2.1 p140.2.2.2.2.2.2.2.2 ((x7.getD p140.2.1.toNat ((0,0,0):Int×Int×Int)).1) ((x7.getD p140.2.1.toNat ((0,0,0):Int×Int×Int)).2.1) ((x7.getD p140.2.1.toNat ((0,0,0):Int×Int×Int)).2.2)) (fun p156=>Option.bind (bif p156.2.2.2.2.2.2.2 then some (w64 (p140.1+1),p156.1,p156.2.1,p156.2.2.1,p156.2.2.2.1,p156.2.2.2.2.1,p156.2.2.2.2.2.1,p156.2.2.2.2.2.2.1) else some (p140.1,p140.2.2.1,p140.2.2.2.1,p140.2.2.2.2.1,p140.2.2.2.2.2.1,p140.2.2.2.2.2.2.1,p140.2.2.2.2.2.2.2.1,p140.2.2.2.2.2.2.2.2)) (fun p176=>rec (p176.1,w64 (p140.2.1+1),p176.2.1,p176.2.2.1,p176.2.2.2.1,p176.2.2.2.2.1,p176.2.2.2.2.2.1,p176.2.2.2.2.2.2.1,p176.2.2.2.2.2.2.2)))) else some (p140.1,p140.2.2.1,p140.2.2.2.1,p140.2.2.2.2.1,p140.2.2.2.2.2.1,p140.2.2.2.2.2.2.1,p140.2.2.2.2.2.2.2.1,p140.2.2.2.2.2.2.2.2))
def m_impl_WorldRun_l1 (x7:List (Int×Int×Int)):Nat → (Int×Int×Int×List (Int×Int×Int)×List (Int×Int)×List Bool×List Bool×List (Int×Int)×List Int) → Option ((Int×Int×List (Int×Int×Int)×List (Int×Int)×List Bool×List Bool×List (Int×Int)×List Int)):=itr (m_impl_WorldRun_l1s x7)
theorem e_impl_WorldRun_l1 (x7:List (Int×Int×Int)) (n:Nat) (p:(Int×Int×Int×List (Int×Int×Int)×List (Int×Int)×List Bool×List Bool×List (Int×Int)×List Int)) : m_impl_WorldRun_l1 x7 (n+1) p=m_impl_WorldRun_l1s x7 (m_impl_WorldRun_l1 x7 n) p:=rfl
def m_impl_WorldRun (x0:Int) (x1:List (Int×Int×Int)) (x2:List (Int×Int)) (x3:List Bool) (x4:List Bool) (x5:List (Int×Int)) (x6:List Int) (x7:List (Int×Int×Int)):Option (Int×List (Int×Int×Int)×List (Int×Int)×List Bool×List Bool×List (Int×Int)×List Int×Int):=Option.bind (m_impl_WorldValid x0 x1 x2 x3 x4 x5 x6) (fun p103=>(bif p103 then Option.bind (m_impl_World_clone x0 x1 x2 x3 x4 x5 x6) (fun p105=>Option.bind (m_impl_WorldRun_l1 x7 FUEL (0,0,p105.1,p105.2.1,p105.2.2.1,p105.2.2.2.1,p105.2.2.2.2.1,p105.2.2.2.2.2.1,p105.2.2.2.2.2.2)) (fun p125=>some (p125.2.1,p125.2.2.1,p125.2.2.2.1,p125.2.2.2.2.1,p125.2.2.2.2.2.1,p125.2.2.2.2.2.2.1,p125.2.2.2.2.2.2.2,p125.1))) else some (0,([]:List (Int×Int×Int)),([]:List (Int×Int)),([]:List Bool),([]:List Bool),([]:List (Int×Int)),([]:List Int),0)))
def m_impl_WorldRest (x0:Int) (x1:List (Int×Int×Int)) (x2:List (Int×Int)) (x3:List Bool) (x4:List Bool) (x5:List (Int×Int)) (x6:List Int):Option (Int×List (Int×Int×Int)×List (Int×Int)×List Bool×List Bool×List (Int×Int)×List Int):=Option.bind (m_impl_HealDeeds x0 x1 x2 x3 x4 x5 x6) (fun p103=>Option.bind (m_impl_WorldRun x0 x1 x2 x3 x4 x5 x6 p103) (fun p107=>some (p107.1,p107.2.1,p107.2.2.1,p107.2.2.2.1,p107.2.2.2.2.1,p107.2.2.2.2.2.1,p107.2.2.2.2.2.2.1)))
def m_impl_LineFlow (x0:Int) (x1:List (Int×Int×Int)) (x2:List Bool) (x3:List (Int×Int)) (x4:Int):Option (Int):=Option.bind (m_impl_treeOf x0 x1 x2 x3) (fun p102=>Option.bind (gb (!(!p102.2.2.2.2.2)) (m_impl_Net_hasLine x0 x1 x4)) (fun p113=>(bif (!p102.2.2.2.2.2) || (!p113) then some (-1) else Option.bind (m_impl_tree_flows p102.1 (ifL p102.2.1 x1) p102.2.2.1 p102.2.2.2.1 p102.2.2.2.2.1 x3) (fun p115=>chk (ixB x4 p115.length) (some (p115.getD x4.toNat (0:Int)))))))
def m_impl_listText_l1s (x0:List Int) (rec:(List ByteArray×Int) → Option ((List ByteArray))) (p108:(List ByteArray×Int)):Option ((List ByteArray)):=(bif ltB p108.2 (x0.length:Int) then chk (ixB p108.2 x0.length) (Option.bind (m_strconv_Itoa (x0.getD p108.2.toNat (0:Int))) (fun p112=>chk (ixB p108.2 x0.length) (rec (p108.1.set p108.2.toNat p112,w64 (p108.2+1))))) else some p108.1)
def m_impl_listText_l1 (x0:List Int):Nat → (List ByteArray×Int) → Option ((List ByteArray)):=itr (m_impl_listText_l1s x0)
theorem e_impl_listText_l1 (x0:List Int) (n:Nat) (p:(List ByteArray×Int)) : m_impl_listText_l1 x0 (n+1) p=m_impl_listText_l1s x0 (m_impl_listText_l1 x0 n) p:=rfl
def m_impl_listText (x0:List Int):Option (ByteArray):=(bif (x0.length:Int) == 0 then some ({ data:=#[110,111,110,101] }:ByteArray) else chk (mkB (x0.length:Int)) (Option.bind (m_impl_listText_l1 x0 FUEL (List.replicate x0.length ByteArray.empty,0)) (fun p104=>Option.bind (m_strings_Join p104 ({ data:=#[44] }:ByteArray)) (fun p114=>some p114))))
def m_impl_AliveBuses_l1s (x3:List (Int×Int)) (p108:Int×Int×Int×Int×Int×Int×Int×Int×Int×Int×Int×Int×Int×Int×Int×Int) (rec:(List Int×List Int×Int) → Option ((List Int))) (p117:(List Int×List Int×Int)):Option ((List Int)):=(bif ltB p117.2.2 (x3.length:Int) then Option.bind (m_impl_union_find p117.1 p117.2.2) (fun p122=>chk (ixB p122.1 8) (Option.bind (bif ltB 0 (([p108.1,p108.2.1,p108.2.2.1,p108.2.2.2.1,p108.2.2.2.2.1,p108.2.2.2.2.2.1,p108.2.2.2.2.2.2.1,p108.2.2.2.2.2.2.2.1]:List Int).getD p122.1.toNat 0) then chk (apB p117.2.1.length ([p117.2.2]:List Int).length) (some (p117.2.1++([p117.2.2]:List Int))) else some p117.2.1) (fun p125=>rec (p122.2,p125,w64 (p117.2.2+1))))) else some p117.2.1)
def m_impl_AliveBuses_l1 (x3:List (Int×Int)) (p108:Int×Int×Int×Int×Int×Int×Int×Int×Int×Int×Int×Int×Int×Int×Int×Int):Nat → (List Int×List Int×Int) → Option ((List Int)):=itr (m_impl_AliveBuses_l1s x3 p108)
theorem e_impl_AliveBuses_l1 (x3:List (Int×Int)) (p108:Int×Int×Int×Int×Int×Int×Int×Int×Int×Int×Int×Int×Int×Int×Int×Int) (n:Nat) (p:(List Int×List Int×Int)) : m_impl_AliveBuses_l1 x3 p108 (n+1) p=m_impl_AliveBuses_l1s x3 p108 (m_impl_AliveBuses_l1 x3 p108 n) p:=rfl
def m_impl_AliveBuses (x0:Int) (x1:List (Int×Int×Int)) (x2:List Bool) (x3:List (Int×Int)):Option (List Int):=Option.bind (m_impl_fedValid x0 x1 x2 x3) (fun p102=>(bif p102 then Option.bind (m_impl_unionOf x0 x1 x2) (fun p104=>Option.bind (m_impl_sumsOf x0 x1 x2 x3) (fun p108=>Option.bind (m_impl_AliveBuses_l1 x3 p108 FUEL (p104,([]:List Int),0)) (fun p112=>some p112))) else some ([]:List Int)))
def m_slices_Index_int_int_l1s (x0:List Int) (x1:Int) (rec:Int → Option (Unit ⊕ Int)) (p104:Int):Option (Unit ⊕ Int):=(bif ltB p104 (x0.length:Int) then chk (ixB p104 x0.length) ((bif x1 == (x0.getD p104.toNat (0:Int)) then some (Sum.inr p104) else rec (w64 (p104+1)))) else some (Sum.inl ()))
def m_slices_Index_int_int_l1 (x0:List Int) (x1:Int):Nat → Int → Option (Unit ⊕ Int):=itr (m_slices_Index_int_int_l1s x0 x1)
theorem e_slices_Index_int_int_l1 (x0:List Int) (x1:Int) (n:Nat) (p:Int) : m_slices_Index_int_int_l1 x0 x1 (n+1) p=m_slices_Index_int_int_l1s x0 x1 (m_slices_Index_int_int_l1 x0 x1 n) p:=rfl
def m_slices_Index_int_int (x0:List Int) (x1:Int):Option (Int):=Option.bind (m_slices_Index_int_int_l1 x0 x1 FUEL 0:Option (Unit ⊕ Int)) (Sum.elim (fun (p101:Unit)=>some (-1)) (fun (r:Int)=>some r))
def m_slices_Contains_int_int (x0:List Int) (x1:Int):Option (Bool):=Option.bind (m_slices_Index_int_int x0 x1) (fun p101=>some (leB 0 p101))
def m_impl_WorldDark_l1s (x2:List (Int×Int)) (p104:List Int) (rec:(List Int×Int) → Option ((List Int))) (p113:(List Int×Int)):Option ((List Int)):=(bif ltB p113.2 (x2.length:Int) then chk (ixB p113.2 x2.length) (Option.bind (gb (ltB 0 ((x2.getD p113.2.toNat ((0,0):Int×Int)).2)) (m_slices_Contains_int_int p104 p113.2)) (fun p119=>Option.bind (bif (ltB 0 ((x2.getD p113.2.toNat ((0,0):Int×Int)).2)) && (!p119) then chk (apB p113.1.length ([p113.2]:List Int).length) (some (p113.1++([p113.2]:List Int))) else some p113.1) (fun p120=>rec (p120,w64 (p113.2+1))))) else some p113.1)
def m_impl_WorldDark_l1 (x2:List (Int×Int)) (p104:List Int):Nat → (List Int×Int) → Option ((List Int)):=itr (m_impl_WorldDark_l1s x2 p104)
theorem e_impl_WorldDark_l1 (x2:List (Int×Int)) (p104:List Int) (n:Nat) (p:(List Int×Int)) : m_impl_WorldDark_l1 x2 p104 (n+1) p=m_impl_WorldDark_l1s x2 p104 (m_impl_WorldDark_l1 x2 p104 n) p:=rfl
def m_impl_WorldDark (x0:Int) (x1:List (Int×Int×Int)) (x2:List (Int×Int)) (x3:List Bool) (x4:List Bool) (x5:List (Int×Int)) (x6:List Int):Option (List Int):=Option.bind (m_impl_WorldValid x0 x1 x2 x3 x4 x5 x6) (fun p102=>(bif p102 then Option.bind (m_impl_AliveBuses x0 x1 x3 x2) (fun p104=>Option.bind (m_impl_WorldDark_l1 x2 p104 FUEL (([]:List Int),0)) (fun p108=>some p108)) else some ([]:List Int)))
def m_impl_ServedLoad (x0:Int) (x1:List (Int×Int×Int)) (x2:List Bool) (x3:List (Int×Int)):Option (Int):=Option.bind (m_impl_fedValid x0 x1 x2 x3) (fun p102=>(bif p102 then Option.bind (m_impl_servedLoad x0 x1 x2 x3) (fun p104=>some p104) else some (-1)))
def m_impl_StateText_l1s (x0:List Bool) (rec:(List Int×Int) → Option ((List Int))) (p108:(List Int×Int)):Option ((List Int)):=(bif ltB p108.2 (x0.length:Int) then chk (ixB p108.2 x0.length) (chk (ixB p108.2 x0.length) (Option.bind (bif x0.getD p108.2.toNat false then chk (ixB p108.2 x0.length) (some (p108.1.set p108.2.toNat 49)) else some (p108.1.set p108.2.toNat 48)) (fun p113=>rec (p113,w64 (p108.2+1))))) else some p108.1)
def m_impl_StateText_l1 (x0:List Bool):Nat → (List Int×Int) → Option ((List Int)):=itr (m_impl_StateText_l1s x0)
theorem e_impl_StateText_l1 (x0:List Bool) (n:Nat) (p:(List Int×Int)) : m_impl_StateText_l1 x0 (n+1) p=m_impl_StateText_l1s x0 (m_impl_StateText_l1 x0 n) p:=rfl
def m_impl_StateText (x0:List Bool):Option (ByteArray):=(bif ltB 10 (x0.length:Int) then some ({ data:=#[] }:ByteArray) else chk (mkB (x0.length:Int)) (Option.bind (m_impl_StateText_l1 x0 FUEL (List.replicate x0.length (0:Int),0)) (fun p104=>some (strOfNums p104))))
def m_impl_World_answer (x0:Int) (x1:List (Int×Int×Int)) (x2:List (Int×Int)) (x3:List Bool) (x4:List Bool) (x5:List (Int×Int)) (x6:List Int) (x7:List ByteArray):Option (ByteArray):=chk (!((x7.length:Int) == 2) || ixB 0 x7.length) ((bif ((x7.length:Int) == 2) && ((x7.getD ((0:Int).toNat) ByteArray.empty).toList == ({ data:=#[102,108,111,119] }:ByteArray).toList) then chk (ixB 1 x7.length) (Option.bind (m_impl_readNumber (x7.getD ((1:Int).toNat) ByteArray.empty)) (fun p121=>(bif p121.2 then Option.bind (m_impl_Net_hasLine x0 x1 p121.1) (fun p123=>(bif p123 then Option.bind (m_impl_LineFlow x0 x1 x3 x2 p121.1) (fun p125=>Option.bind (m_strconv_Itoa p125) (fun p126=>some p126)) else some ({ data:=#[110,111] }:ByteArray))) else some ({ data:=#[119,104,97,116] }:ByteArray)))) else Option.bind (m_strings_Join x7 ({ data:=#[32] }:ByteArray)) (fun p104=>(bif p104.toList == ({ data:=#[115,116,97,116,101] }:ByteArray).toList then Option.bind (m_impl_StateText x3) (fun p119=>some p119) else (bif p104.toList == ({ data:=#[115,101,114,118,101,100] }:ByteArray).toList then Option.bind (m_impl_ServedLoad x0 x1 x3 x2) (fun p117=>Option.bind (m_strconv_Itoa p117) (fun p118=>some p118)) else (bif p104.toList == ({ data:=#[100,97,114,107] }:ByteArray).toList then Option.bind (m_impl_WorldDark x0 x1 x2 x3 x4 x5 x6) (fun p112=>Option.bind (m_impl_listText p112) (fun p116=>some p116)) else (bif p104.toList == ({ data:=#[98,114,111,107,101,110] }:ByteArray).toList then Option.bind (m_impl_listText x6) (fun p111=>some p111) else (bif p104.toList == ({ data:=#[110,101,116] }:ByteArray).toList then Option.bind (m_impl_NetText x0 x1) (fun p110=>some p110) else some ({ data:=#[119,104,97,116] }:ByteArray)))))))))
def m_impl_WorldLine (x0:Int) (x1:List (Int×Int×Int)) (x2:List (Int×Int)) (x3:List Bool) (x4:List Bool) (x5:List (Int×Int)) (x6:List Int) (x7:ByteArray):Option (Int×List (Int×Int×Int)×List (Int×Int)×List Bool×List Bool×List (Int×Int)×List Int×ByteArray):=Option.bind (m_impl_WorldValid x0 x1 x2 x3 x4 x5 x6) (fun p103=>(bif p103 then Option.bind (m_strings_Split x7 ({ data:=#[32] }:ByteArray)) (fun p105=>Option.bind (m_impl_readDeed p105) (fun p109=>(bif p109.2.2.2 then Option.bind (m_impl_WorldDo x0 x1 x2 x3 x4 x5 x6 p109.1 p109.2.1 p109.2.2.1) (fun p182=>(bif p182.2.2.2.2.2.2.2 then some (p182.1,p182.2.1,p182.2.2.1,p182.2.2.2.1,p182.2.2.2.2.1,p182.2.2.2.2.2.1,p182.2.2.2.2.2.2.1,({ data:=#[111,107] }:ByteArray)) else some (p182.1,p182.2.1,p182.2.2.1,p182.2.2.2.1,p182.2.2.2.2.1,p182.2.2.2.2.2.1,p182.2.2.2.2.2.2.1,({ data:=#[110,111] }:ByteArray)))) else (bif x7.toList == ({ data:=#[104,101,97,108] }:ByteArray).toList then Option.bind (m_impl_WorldRest x0 x1 x2 x3 x4 x5 x6) (fun p163=>some (p163.1,p163.2.1,p163.2.2.1,p163.2.2.2.1,p163.2.2.2.2.1,p163.2.2.2.2.2.1,p163.2.2.2.2.2.2,({ data:=#[111,107] }:ByteArray))) else Option.bind (m_impl_World_clone x0 x1 x2 x3 x4 x5 x6) (fun p113=>Option.bind (m_impl_World_answer x0 x1 x2 x3 x4 x5 x6 p105) (fun p132=>some (p113.1,p113.2.1,p113.2.2.1,p113.2.2.2.1,p113.2.2.2.2.1,p113.2.2.2.2.2.1,p113.2.2.2.2.2.2,p132))))))) else some (0,([]:List (Int×Int×Int)),([]:List (Int×Int)),([]:List Bool),([]:List Bool),([]:List (Int×Int)),([]:List Int),({ data:=#[] }:ByteArray))))
def m_impl_OtherEnd (x0:Int) (x1:List (Int×Int×Int)) (x2:Int) (x3:Int):Option (Int):=Option.bind (m_impl_NetValid x0 x1) (fun p102=>Option.bind (gb (!(!p102)) (m_impl_Net_hasLine x0 x1 x2)) (fun p103=>(bif (!p102) || (!p103) then some (-1) else chk (ixB x2 x1.length) (Option.bind (m_impl_Line_other ((x1.getD x2.toNat ((0,0,0):Int×Int×Int)).1) ((x1.getD x2.toNat ((0,0,0):Int×Int×Int)).2.1) ((x1.getD x2.toNat ((0,0,0):Int×Int×Int)).2.2) x3) (fun p106=>some p106)))))
def m_laws_alive:Option (Bool):=Option.bind (m_impl_OtherEnd 2 ([(0,1,1)]:List (Int×Int×Int)) 0 0) (fun p102=>Option.bind (gb (p102 == 1) (m_impl_NetText 0 ([]:List (Int×Int×Int)))) (fun p103=>some ((p102 == 1) && (p103.toList == ({ data:=#[] }:ByteArray).toList))))
def m_spec_DrawWorldLines_l1s (x0:List Int) (p103:Int×List (Int×Int×Int)×List (Int×Int)×List Bool×List Bool×List (Int×Int)×List Int×Int) (rec:(List ByteArray×Int×Int) → Option ((List ByteArray×Int))) (p130:(List ByteArray×Int×Int)):Option ((List ByteArray×Int)):=(bif ltB 0 p130.2.1 then Option.bind (m_spec_l20Line (subL x0 0 (opH x0.length)) p130.2.2 p103.1 p103.2.1 p103.2.2.1 p103.2.2.2.1 p103.2.2.2.2.1 p103.2.2.2.2.2.1 p103.2.2.2.2.2.2.1) (fun p134=>chk (apB p130.1.length ([p134.1]:List ByteArray).length) (rec (p130.1++([p134.1]:List ByteArray),w64 (p130.2.1 - 1),p134.2))) else some (p130.1,p130.2.2))
def m_spec_DrawWorldLines_l1 (x0:List Int) (p103:Int×List (Int×Int×Int)×List (Int×Int)×List Bool×List Bool×List (Int×Int)×List Int×Int):Nat → (List ByteArray×Int×Int) → Option ((List ByteArray×Int)):=itr (m_spec_DrawWorldLines_l1s x0 p103)
theorem e_spec_DrawWorldLines_l1 (x0:List Int) (p103:Int×List (Int×Int×Int)×List (Int×Int)×List Bool×List Bool×List (Int×Int)×List Int×Int) (n:Nat) (p:(List ByteArray×Int×Int)) : m_spec_DrawWorldLines_l1 x0 p103 (n+1) p=m_spec_DrawWorldLines_l1s x0 p103 (m_spec_DrawWorldLines_l1 x0 p103 n) p:=rfl
def m_spec_DrawWorldLines (x0:List Int):Option (Int×List (Int×Int×Int)×List (Int×Int)×List Bool×List Bool×List (Int×Int)×List Int×List ByteArray):=Option.bind (m_spec_l20World (subL x0 0 (opH x0.length)) 0 12) (fun p103=>Option.bind (m_spec_l20Rd_pick (subL x0 0 (opH x0.length)) p103.2.2.2.2.2.2.2 9) (fun p124=>Option.bind (m_spec_DrawWorldLines_l1 x0 p103 FUEL (([]:List ByteArray),p124.1,p124.2)) (fun p125=>Option.bind (m_spec_l20Rd_odd (subL x0 0 (opH x0.length)) p125.2 30) (fun p139=>Option.bind (bif p139.1 then chk (mkB 41) (some (List.replicate ((41:Int).toNat) ByteArray.empty)) else some p125.1) (fun p140=>some (p103.1,p103.2.1,p103.2.2.1,p103.2.2.2.1,p103.2.2.2.2.1,p103.2.2.2.2.2.1,p103.2.2.2.2.2.2.1,p140))))))
def m_impl_WorldLines_l1s (x7:List ByteArray) (rec:(List ByteArray×Int×Int×List (Int×Int×Int)×List (Int×Int)×List Bool×List Bool×List (Int×Int)×List Int) → Option ((List ByteArray×Int×List (Int×Int×Int)×List (Int×Int)×List Bool×List Bool×List (Int×Int)×List Int))) (p143:(List ByteArray×Int×Int×List (Int×Int×Int)×List (Int×Int)×List Bool×List Bool×List (Int×Int)×List Int)):Option ((List ByteArray×Int×List (Int×Int×Int)×List (Int×Int)×List Bool×List Bool×List (Int×Int)×List Int)):=(bif ltB p143.2.1 (x7.length:Int) then chk (ixB p143.2.1 x7.length) (Option.bind (m_impl_WorldLine p143.2.2.1 p143.2.2.2.1 p143.2.2.2.2.1 p143.2.2.2.2.2.1 p143.2.2.2.2.2.2.1 p143.2.2.2.2.2.2.2.1 p143.2.2.2.2.2.2.2.2 (x7.getD p143.2.1.toNat ByteArray.empty)) (fun p159=>chk (ixB p143.2.1 x7.length) (rec (p143.1.set p143.2.1.toNat p159.2.2.2.2.2.2.2,w64 (p143.2.1+1),p159.1,p159.2.1,p159.2.2.1,p159.2.2.2.1,p159.2.2.2.2.1,p159.2.2.2.2.2.1,p159.2.2.2.2.2.2.1)))) else some (p143.1,p143.2.2.1,p143.2.2.2.1,p143.2.2.2.2.1,p143.2.2.2.2.2.1,p143.2.2.2.2.2.2.1,p143.2.2.2.2.2.2.2.1,p143.2.2.2.2.2.2.2.2))
def m_impl_WorldLines_l1 (x7:List ByteArray):Nat → (List ByteArray×Int×Int×List (Int×Int×Int)×List (Int×Int)×List Bool×List Bool×List (Int×Int)×List Int) → Option ((List ByteArray×Int×List (Int×Int×Int)×List (Int×Int)×List Bool×List Bool×List (Int×Int)×List Int)):=itr (m_impl_WorldLines_l1s x7)
theorem e_impl_WorldLines_l1 (x7:List ByteArray) (n:Nat) (p:(List ByteArray×Int×Int×List (Int×Int×Int)×List (Int×Int)×List Bool×List Bool×List (Int×Int)×List Int)) : m_impl_WorldLines_l1 x7 (n+1) p=m_impl_WorldLines_l1s x7 (m_impl_WorldLines_l1 x7 n) p:=rfl
def m_impl_WorldLines (x0:Int) (x1:List (Int×Int×Int)) (x2:List (Int×Int)) (x3:List Bool) (x4:List Bool) (x5:List (Int×Int)) (x6:List Int) (x7:List ByteArray):Option (Int×List (Int×Int×Int)×List (Int×Int)×List Bool×List Bool×List (Int×Int)×List Int×List ByteArray):=Option.bind (m_impl_WorldValid x0 x1 x2 x3 x4 x5 x6) (fun p103=>(bif (!p103) || (ltB 40 (x7.length:Int)) then some (0,([]:List (Int×Int×Int)),([]:List (Int×Int)),([]:List Bool),([]:List Bool),([]:List (Int×Int)),([]:List Int),([]:List ByteArray)) else Option.bind (m_impl_World_clone x0 x1 x2 x3 x4 x5 x6) (fun p105=>chk (mkB (x7.length:Int)) (Option.bind (m_impl_WorldLines_l1 x7 FUEL (List.replicate x7.length ByteArray.empty,0,p105.1,p105.2.1,p105.2.2.1,p105.2.2.2.1,p105.2.2.2.2.1,p105.2.2.2.2.2.1,p105.2.2.2.2.2.2)) (fun p127=>some (p127.2.1,p127.2.2.1,p127.2.2.2.1,p127.2.2.2.2.1,p127.2.2.2.2.2.1,p127.2.2.2.2.2.2.1,p127.2.2.2.2.2.2.2,p127.1))))))
def m_impl_WorldCalm (x0:Int) (x1:List (Int×Int×Int)) (x2:List (Int×Int)) (x3:List Bool) (x4:List Bool) (x5:List (Int×Int)) (x6:List Int):Option (Bool):=Option.bind (Option.bind (m_impl_WorldValid x0 x1 x2 x3 x4 x5 x6) (fun p105=>(bif p105 then Option.bind (m_impl_HealDeeds x0 x1 x2 x3 x4 x5 x6) (fun p107=>some ((p107.length:Int) == 0)) else some false))) (fun p102=>some p102)
def m_laws_FnLinesHeal (x0:List Int):Option (Bool):=(bif ltB 1048576 (x0.length:Int) then some true else Option.bind (m_spec_DrawWorldLines x0) (fun p102=>Option.bind (m_spec_WorldValid p102.1 p102.2.1 p102.2.2.1 p102.2.2.2.1 p102.2.2.2.2.1 p102.2.2.2.2.2.1 p102.2.2.2.2.2.2.1) (fun p125=>(bif (!p125) || (leB 40 (p102.2.2.2.2.2.2.2.length:Int)) then Option.bind (m_laws_alive) (fun p181=>some p181) else chk (apB ([]:List ByteArray).length p102.2.2.2.2.2.2.2.length) (chk (apB ([]++p102.2.2.2.2.2.2.2).length ([({ data:=#[104,101,97,108] }:ByteArray)]:List ByteArray).length) (Option.bind (m_impl_WorldLines p102.1 p102.2.1 p102.2.2.1 p102.2.2.2.1 p102.2.2.2.2.1 p102.2.2.2.2.2.1 p102.2.2.2.2.2.2.1 (([]++p102.2.2.2.2.2.2.2)++([({ data:=#[104,101,97,108] }:ByteArray)]:List ByteArray))) (fun p129=>chk (!(!((p129.2.2.2.2.2.2.2.length:Int) != (w64 ((p102.2.2.2.2.2.2.2.length:Int)+1)))) || ixB (p102.2.2.2.2.2.2.2.length:Int) p129.2.2.2.2.2.2.2.length) ((bif ((p129.2.2.2.2.2.2.2.length:Int) != (w64 ((p102.2.2.2.2.2.2.2.length:Int)+1))) || (!((p129.2.2.2.2.2.2.2.getD ((p102.2.2.2.2.2.2.2.length:Int).toNat) ByteArray.empty).toList == ({ data:=#[111,107] }:ByteArray).toList)) then some false else Option.bind (m_impl_BestState p129.1 p129.2.1 p129.2.2.2.1 p129.2.2.1 ([]:List Int)) (fun p174=>Option.bind (m_impl_WorldCalm p129.1 p129.2.1 p129.2.2.1 p129.2.2.2.1 p129.2.2.2.2.1 p129.2.2.2.2.2.1 p129.2.2.2.2.2.2.1) (fun p178=>Option.bind (gb ((p178 && ((p129.2.2.2.2.2.2.1.length:Int) == 0)) && (!(!p174.2))) (m_impl_ServedLoad p129.1 p129.2.1 p129.2.2.2.1 p129.2.2.1)) (fun p179=>Option.bind (gb ((p178 && ((p129.2.2.2.2.2.2.1.length:Int) == 0)) && (!(!p174.2))) (m_impl_ServedLoad p129.1 p129.2.1 p174.1 p129.2.2.1)) (fun p180=>some ((p178 && ((p129.2.2.2.2.2.2.1.length:Int) == 0)) && ((!p174.2) || (p179 == p180))))))))))))))))
end
end Go.Proofs.YtjdlgannencchaaGreatDoor
namespace Go.Proofs.YtjdlgannencchaaGreatDoor
set_option linter.unusedVariables false
set_option linter.unusedSimpArgs false
theorem getD_ge {α:Type} {l:List α} {k:Nat} {d : α} (h : k < l.length) : l.getD k d=l[k]:=by simp [List.getD,h]
theorem w64_succ {k:Nat} (h : k < 4611686018427387904) : w64 ((k:Int)+1)=((k+1:Nat):Int):=by rw [w64_in (by omega) (by omega)]; rfl
theorem w64_id {n:Int} (h : -9223372036854775808 ≤ n∧n ≤ 9223372036854775807) : w64 n=n:=w64_in h.1 h.2
theorem fuel_gt {n:Nat} (h : n ≤ 1099511627776) : n < FUEL:=by rw [FUEL_eq]; omega
theorem lt_dec {k n:Nat} (h : k < n) : ltB (k:Int) (n:Int)=true:=by simp [ltB,h]
theorem ix_dec {k n:Nat} (h : k < n) : ixB (k:Int) n=true:=by simp [ixB,h]
theorem nlt_dec {n:Nat} : ltB (n:Int) (n:Int)=false:=by simp [ltB]
theorem inB_le (n lo hi:Int) : inB n lo hi=(leB lo n && leB n hi):=rfl
theorem take_fold {α β:Type} (f : β → α → β) (l:List α) (a : β) (d : α) {k:Nat} (h : k < l.length):(l.take (k+1)).foldl f a=f ((l.take k).foldl f a) (l.getD k d):=by
 rw [List.take_succ_eq_append_getElem h,List.foldl_append,getD_ge h]; rfl
theorem loop_up {σ Out:Type} (L:Nat → σ → Option Out) (st:Nat → σ) (n:Nat) (out:Option Out) (hstep : ∀ k fuel,k < n → L (fuel+1) (st k)=L fuel (st (k+1))) (hend : ∀ fuel,L (fuel+1) (st n)=out) : ∀ j k fuel,k+j=n → j < fuel → L fuel (st k)=out:=by
 intro j
 induction j with
 | zero =>
  intro k fuel hk hf
  obtain ⟨f,rfl⟩ : ∃ f,fuel=f+1:=⟨fuel - 1,by omega⟩
  obtain rfl : k=n:=by omega
  exact hend f
 | succ j ih =>
  intro k fuel hk hf
  obtain ⟨f,rfl⟩ : ∃ f,fuel=f+1:=⟨fuel - 1,by omega⟩
  rw [hstep k f (by omega)]
  exact ih (k+1) f (by omega) (by omega)
theorem loop_all {σ Out:Type} (L:Nat → σ → Option Out) (st:Nat → σ) (n:Nat) (out:Option Out) (hn : n ≤ 1099511627776) (hstep : ∀ k fuel,k < n → L (fuel+1) (st k)=L fuel (st (k+1))) (hend : ∀ fuel,L (fuel+1) (st n)=out):L FUEL (st 0)=out :=
 loop_up L st n out hstep hend n 0 FUEL (by omega) (fuel_gt hn)
theorem loop_find {σ Out:Type} (L:Nat → σ → Option Out) (st:Nat → σ) (n:Nat) (P:Nat → Bool) (fv out:Option Out) (hn : n ≤ 1099511627776) (hstep : ∀ k fuel,k < n → L (fuel+1) (st k)=bif P k then fv else L fuel (st (k+1))) (hend : ∀ fuel,L (fuel+1) (st n)=out) :
  L FUEL (st 0)=bif (List.range n).any P then fv else out:=by
 have key : ∀ j k fuel,k+j=n → j < fuel → L fuel (st k)=bif (List.range' k j).any P then fv else out:=by
  intro j
  induction j with
  | zero =>
   intro k fuel hk hf
   obtain ⟨f,rfl⟩ : ∃ f,fuel=f+1:=⟨fuel - 1,by omega⟩
   obtain rfl : k=n:=by omega
   simpa using hend f
  | succ j ih =>
   intro k fuel hk hf
   obtain ⟨f,rfl⟩ : ∃ f,fuel=f+1:=⟨fuel - 1,by omega⟩
   rw [hstep k f (by omega),ih (k+1) f (by omega) (by omega),List.range'_succ,List.any_cons]
   cases P k <;> simp
 rw [key n 0 FUEL (by omega) (fuel_gt hn),List.range_eq_range']
theorem any_list {α:Type} (l:List α) (d : α) (p : α → Bool):(List.range l.length).any (fun k=>p (l.getD k d))=l.any p:=by
 rw [Bool.eq_iff_iff,List.any_eq_true,List.any_eq_true]
 constructor
 ·rintro ⟨k,hk,h⟩
  have hk : k < l.length:=by simpa using hk
  exact ⟨l[k],List.getElem_mem hk,by simpa [List.getD,hk] using h⟩
 ·rintro ⟨x,hx,h⟩
  obtain ⟨k,hk,rfl⟩:=List.mem_iff_getElem.1 hx
  exact ⟨k,by simpa using hk,by simpa [List.getD,hk] using h⟩
theorem to_loop {β:Type} (L:Nat → (List β×Int) → Option (List β)) (x:List β) (l0:List β) (hl : l0.length=x.length) (hx : x.length ≤ 1048576)
  (hstep : ∀ fuel (l:List β) (j:Nat) (hj : j < x.length),l.length=x.length → L (fuel+1) (l,(j:Int))=L fuel (l.set j x[j],((j+1:Nat):Int)))
  (hend : ∀ fuel (l:List β),l.length=x.length → L (fuel+1) (l,(x.length:Int))=some l):L FUEL (l0,0)=some x:=by
 have h:=loop_all L (fun j=>(x.take j++l0.drop j,(j:Int))) x.length (some x) (by omega) (fun j fuel hj=>?_) (fun fuel=>?_)
 ·simpa using h
 ·rw [hstep fuel _ j hj (by simp; omega)]
  congr 2
  rw [List.set_append_right _ _ (by simp; omega),List.length_take,Nat.min_eq_left (by omega),Nat.sub_self,List.drop_eq_getElem_cons (by omega : j < l0.length),List.set_cons_zero,List.take_succ_eq_append_getElem hj,List.append_assoc]
  rfl
 ·have:=hend fuel (x.take x.length++l0.drop x.length) (by simp; omega)
  rw [this,List.take_length,List.drop_of_length_le (by omega),List.append_nil]
end Go.Proofs.YtjdlgannencchaaGreatDoor
namespace Go.Proofs.YtjdlgannencchaaGreatDoor
open Go.Lib
set_option linter.unusedVariables false
set_option linter.unusedSimpArgs false
theorem wk8 {n:Int} (h : 0 ≤ n∧n < 256) : wk .u8 n=n:=by
 unfold wk IntKind.wrap
 simp [IntKind.bits,IntKind.signed]
 omega
theorem dig_text {n:Nat} (h : n < 10) : strOfNums ([wk .u8 (w64 (48+(n:Int)))]:List Int)=bs8 [UInt8.ofNat (48+n)]:=by
 rw [w64_id (by omega),wk8 (by omega)]
 unfold strOfNums bs8
 have e:(48+(n:Int)).toNat=48+n:=by omega
 simp only [List.map_cons,List.map_nil,e]
theorem bs8_app (a b:List UInt8) : bs8 a++bs8 b=bs8 (a++b):=by
 have h : ∀ {x y:ByteArray},x.data.toList=y.data.toList → x=y:=fun {x y} h=>by
  cases x; cases y; simp at h; rw [ByteArray.mk.injEq]; exact h
 apply h
 rw [ByteArray.data_append,Array.toList_append,bs8_data,bs8_data,bs8_data]
theorem dec_len : ∀ (k n:Nat),n < 10 ^ (k+1) → (decDigits n).length ≤ k+1
 | 0,n,h=>by rw [decDigits_one (by simpa using h)]; simp
 | k+1,n,h=>by
  rw [decDigits]
  split
  ·simp
  ·have:=dec_len k (n / 10) (by rw [Nat.pow_succ] at h; omega)
   simp; omega
theorem num_s : ∀ (k n:Nat),n < 10 ^ (k+1) → n < 9223372036854775808 → k < 100 → itr m_Number_s (k+1) (n:Int)=some (bs8 (decDigits n)):=by
 intro k
 induction k with
 | zero =>
  intro n h h2 _
  have h : n < 10:=by simpa using h
  show m_Number_s (itr m_Number_s 0) (n:Int)=_
  rw [m_Number_s]
  rw [show ltB (n:Int) 0=false from decide_eq_false (by omega),show ltB (n:Int) 10=true from decide_eq_true (by omega),decDigits_one h,dig_text h]
  rfl
 | succ k ih =>
  intro n h h2 hk
  show m_Number_s (itr m_Number_s (k+1)) (n:Int)=_
  rw [m_Number_s]
  rw [show ltB (n:Int) 0=false from decide_eq_false (by omega)]
  by_cases h10 : n < 10
  ·rw [show ltB (n:Int) 10=true from decide_eq_true (by omega),decDigits_one h10,dig_text h10]; rfl
  ·rw [show ltB (n:Int) 10=false from decide_eq_false (by omega)]
   have e1 : w64 (Int.tdiv (n:Int) 10)=((n / 10:Nat):Int):=by
    rw [Int.tdiv_eq_ediv_of_nonneg (by omega),w64_id (by omega)]; rfl
   have e2:Int.tmod (n:Int) 10=((n % 10:Nat):Int):=by
    rw [Int.tmod_eq_emod_of_nonneg (by omega)]; rfl
   have hlt : n / 10 < 10 ^ (k+1):=by rw [Nat.pow_succ] at h; omega
   have hl:=dec_len k (n / 10) hlt
   rw [e1,e2,ih (n / 10) hlt (by omega) (by omega),dig_text (n:=n % 10) (Nat.mod_lt _ (by decide))]
   have hs : stB (bs8 (decDigits (n / 10))).size (bs8 [UInt8.ofNat (48+n % 10)]).size=true:=decide_eq_true (by rw [bs8_size,bs8_size]; simp; omega)
   simp only [Bool.false_and,cond_false,Option.bind_some,hs,chk_true]
   rw [bs8_app]
   conv=>rhs; rw [decDigits,dif_neg h10]
theorem num_r {x:Int} {r:ByteArray} (h : m_spec_l1Number x=some r) : itr m_Number_s 30 x=some r:=by
 obtain ⟨h1,h2⟩:=chk_ex h
 injection h2 with h2
 have h1 : 0 ≤ x∧x ≤ 9223372036854775807:=of_decide_eq_true h1
 obtain ⟨n,rfl⟩ : ∃ n:Nat,x=n:=⟨x.toNat,by omega⟩
 rw [num_s 29 n (by have:(10:Nat) ^ 20 ≤ 10 ^ 30:=Nat.pow_le_pow_right (by decide) (by decide); omega) (by omega) (by decide),← h2]
 simp
theorem num_ok {n:Nat} (h : n < 9223372036854775808) : m_spec_l1Number (n:Int)=some (bs8 (decDigits n)):=by
 unfold m_spec_l1Number
 rw [decide_eq_true (by omega),chk_true]; simp
theorem itoa_ok {n:Nat} (h : n < 9223372036854775808) : m_strconv_Itoa (n:Int)=some (bs8 (decDigits n)):=by
 unfold m_strconv_Itoa
 rw [decide_eq_true (by omega),chk_true,itoa_nonneg]
end Go.Proofs.YtjdlgannencchaaGreatDoor
namespace Go.Proofs.YtjdlgannencchaaGreatDoor
open Go.ChangeShapes Go.WideShapes Go.ChangeAt Go.RowKit
set_option linter.unusedVariables false
set_option linter.unusedSimpArgs false
def mpE:Nat → List (ByteArray×Int) → List MapEntry
 | _,[]=>[]
 | n,(k,v) :: l=>⟨.string k,.int .i64 v,n⟩ :: mpE (n+1) l
theorem mpE_snoc (k:ByteArray) (v:Int) : ∀ n l,mpE n (l++[(k,v)])=mpE n l++[⟨.string k,.int .i64 v,n+l.length⟩]
 | n,[]=>rfl
 | n,(a,b) :: l=>by simp [mpE,mpE_snoc k v (n+1) l]; omega
def lkF:List (ByteArray×Int) → ByteArray → Nat → Option (Nat×Value)
 | [],_,_=>none
 | (k,v) :: l,s,i=>bif s == k then some (i,.int .i64 v) else lkF l s (i+1)
theorem find_mp (s:ByteArray) : ∀ l n i,Instr.findNow .string (.string s) (mpE n l) i=some (lkF l s i)
 | [],_,_=>rfl
 | (k,v) :: l,n,i=>by
  have h:Instr.sameNow .string (.string s) (.string k)=some (s == k):=rfl
  unfold mpE Instr.findNow lkF
  rw [h]
  cases s == k with
  | true=>rfl
  | false=>exact find_mp s l (n+1) (i+1)
theorem lk_f (s:ByteArray) : ∀ l i,(match lkF l s i with | some (_,v)=>(v,true) | none=>(Value.int .i64 0,false))=(Value.int .i64 (lkS l s).1,(lkS l s).2)
 | [],_=>rfl
 | (k,v) :: l,i=>by
  unfold lkF lkS
  cases s == k with
  | true=>rfl
  | false=>exact lk_f s l (i+1)
theorem lkF_none (s:ByteArray) : ∀ l i,(lkS l s).2=false → lkF l s i=none
 | [],_,_=>rfl
 | (k,v) :: l,i,h=>by
  unfold lkF; unfold lkS at h
  cases hc : s == k with
  | true=>rw [hc] at h; cases h
  | false=>rw [hc] at h; exact lkF_none s l (i+1) h
def MapIs (w:World) (b:Nat) (l:List (ByteArray×Int)):Prop:=w.heap[b]?=some (.map (mpE 0 l).toArray l.length)
section
variable {P:Program} {w:World} {b:Nat} {l:List (ByteArray×Int)} {t kt et:TypeId}
theorem map_new (w:World):MapIs (w.alloc (.map #[] 0)) w.heap.size []:=(MapKept.heap_alloc w (.map #[] 0)).1
theorem map_put (h:MapIs w b l) (ht:P.underlying t=some (.map kt et)) (hk:P.underlying kt=some .string) {k:ByteArray} (v:Int) (hn:(lkS l k).2=false) :
  ∃ w',(Instr.mapUpdate t (.map (some b)) (.string k) (.int .i64 v)).run P w=.ok () w'∧MapIs w' b (l++[(k,v)])∧w'.heap.size=w.heap.size∧w.grownBy w' (some b):=by
 have h1:=MapKept.run_getObj_map (P:=P) h
 have hb : b < w.heap.size:=(Array.getElem?_eq_some_iff.1 h).1
 have hf:=find_mp k l 0 0
 rw [lkF_none k l 0 hn] at hf
 refine ⟨{ w with heap:=w.heap.setIfInBounds b (.map (mpE 0 (l++[(k,v)])).toArray (l.length+1)) },?_,?_,?_,rfl,rfl,rfl,?_,?_⟩
 ·have hs:=MapKept.run_setObj_map (P:=P) (.map ((mpE 0 l).toArray.push { key:=.string k,val:=.int .i64 v,born:=l.length }) (l.length+1)) h
  have hF:=MapKept.run_findKey (P:=P) (w:=w) hk hf
  have hik:MapKept.IsKey .string (.string k):=trivial
  have e:(mpE 0 l).toArray.push { key:=.string k,val:=.int .i64 v,born:=l.length }=(mpE 0 (l++[(k,v)])).toArray:=by simp [mpE_snoc]
  rw [e] at hs
  simp only [Instr.mapUpdate,Sem.run_bind,run_underlying ht,h1,MapKept.run_checkKey hk hik,hF,Result.andThen,e,hs]
 ·simp [MapIs,hb]
 ·simp
 ·simp
 ·intro g _ hg; simp [show b ≠ g from fun e=>hg (by rw [e])]
theorem map_look (h:MapIs w b l) (ht:P.underlying t=some (.map kt et)) (hk:P.underlying kt=some .string) (hz:(zeroValue et).run P w=.ok (.int .i64 0) w) (s:ByteArray) :
  (Instr.lookup t (.map (some b)) (.string s) true).run P w=.ok (.tuple #[.int .i64 (lkS l s).1,.bool (lkS l s).2]) w:=by
 have h1:=MapKept.run_getObj_map (P:=P) h
 have hf:=find_mp s l 0 0
 have hl:=lk_f s l 0
 have hF:=MapKept.run_findKey (P:=P) (w:=w) hk hf
 have hik:MapKept.IsKey .string (.string s):=trivial
 cases hc : lkF l s 0 with
 | none =>
  rw [hc] at hF hl
  injection hl with e1 e2
  simp [Instr.lookup,run_underlying ht,h1,MapKept.run_checkKey hk hik,hF,Result.andThen,hz,← e1,← e2]
 | some p =>
  rw [hc] at hF hl
  injection hl with e1 e2
  simp [Instr.lookup,run_underlying ht,h1,MapKept.run_checkKey hk hik,hF,Result.andThen,← e1,← e2]
theorem map_keep {w':World} {g:Nat} (h:MapIs w b l) (hg : w.grownBy w' (some g)) (hne : b ≠ g):MapIs w' b l:=(hg.block b (Array.getElem?_eq_some_iff.1 h).1 (by simpa using hne)).trans h
theorem map_after {w':World} (h:MapIs w b l) (hb:Below w.heap.size w w'):MapIs w' b l:=(hb.block b (Array.getElem?_eq_some_iff.1 h).1).trans h
theorem map_alloc (h:MapIs w b l) (o:Obj):MapIs (w.alloc o) b l:=map_after h (Below.alloc (Below.refl _ _) (Nat.le_refl _) o)
theorem below_put {w0 w':World} (h:Below w0.heap.size w0 w) (hg : w.grownBy w' (some b)) (hb : w0.heap.size ≤ b):Below w0.heap.size w0 w' :=
 h.trans ⟨hg.os,hg.tape,hg.output,hg.size,fun k hk=>hg.block k (Nat.lt_of_lt_of_le hk h.size) (by simp; omega)⟩
end
end Go.Proofs.YtjdlgannencchaaGreatDoor
namespace Go.Proofs.YtjdlgannencchaaGreatDoor
open Go.ChangeShapes Go.WideShapes Go.ChangeAt Go.RowKit
def upOk (ops:Array Oper) (L:Nat) (up:Nat → Nat):Bool :=
 (List.range L).all fun j=>decide (j < up j) && decide (up j ≤ L) && ((ops[up j]?).map (waitsOn ·j)).getD false
section
variable {P:Program} {ops:Array Oper} {Q:Exit → Act → World → Prop} {a0:Act} {D:List Nat} {dep:Nat → Nat}
 {Inv:World → Prop} {R:World → World → Prop} {Fs:Nat → Value → World → Prop}
def OwesLast (P:Program) (ops:Array Oper) (Q:Exit → Act → World → Prop) (a0:Act) (D:List Nat) (dep:Nat → Nat) (Inv:World → Prop) (Fs:Nat → Value → World → Prop) (o:Oper):Prop :=
 ∀ (a:Act) (w:World),Base a0 D a → Inv w → (∀ j,j+1 < ops.size → Fs j (sl a (dep j)) w) →
 Region.wanted o (yielded ops a.tmps)=true∧∃ f args,(execOp a.eval o).run P w=.ok (.enter f args) w∧Calls P f args w fun e w'=>∃ v,e=.returned v∧Q .normal (a.put o.dst v) w'
theorem rg_last {up : Nat → Nat} {L : Nat} {oL : Oper} (hL : ops.size = L + 1) (hoL : ops[L]? = some oL) (hup : upOk ops L up = true) (hs : structOk ops a0.tmps.size D dep = true) (hstab : ∀ j a w w', R w w' → Fact dep Fs j a w → Fact dep Fs j a w')
    (hops : ∀ i o, i < L → ops[i]? = some o → Owes P ops a0 D [] dep Inv R Fs i o)
    (hlast : OwesLast P ops Q a0 D dep Inv Fs oL) :
    ∀ (fuel : Nat) (listed : Array Bool) (a : Act) (w : World), listed.size = ops.size → listed.getD L true = false → Base a0 D a → Inv w →
      (∀ i, i < ops.size → listed.getD i true = true → Fact dep Fs i a w) →
      (∀ j oj i, ops[j]? = some oj → listed.getD j true = true → waitsOn oj i = true → listed.getD i false = true) →
      ((List.range ops.size).filter fun i => !listed.getD i true).length ≤ fuel → wpAny P .any ops Q fuel listed a w := by
  have hall : ∀ (listed : Array Bool), listed.size = ops.size → Region.ready .any ops listed = [] → ∀ n i, i ≤ n → i < ops.size → listed.getD i true = true := by
    intro listed hsz hr n
    induction n with
    | zero =>
      intro i hi hlt
      obtain rfl : i = 0 := by omega
      cases hl : listed.getD 0 true with
      | true => rfl
      | false =>
        exfalso
        obtain ⟨o, ho⟩ : ∃ o, ops[0]? = some o := ⟨ops[0], by simp [hlt]⟩
        have hm : 0 ∈ Region.ready .any ops listed := by
          unfold Region.ready
          rw [List.mem_filter]
          refine ⟨by simpa using hlt, ?_⟩
          rw [hl, ho]
          simp only [Bool.not_false, Bool.true_and, Option.map_some, Option.getD_some]
          refine Array.all_eq_true'.2 fun e he => ?_
          cases hb : Region.binds .any e with
          | false => rfl
          | true => have := (struct_at hs ho).1 e he hb; omega
        rw [hr] at hm
        cases hm
    | succ n ih =>
      intro i hi hlt
      by_cases hle : i ≤ n
      · exact ih i hle hlt
      obtain rfl : i = n + 1 := by omega
      cases hl : listed.getD (n + 1) true with
      | true => rfl
      | false =>
        exfalso
        obtain ⟨o, ho⟩ : ∃ o, ops[n + 1]? = some o := ⟨ops[n + 1], by simp [hlt]⟩
        have hm : n + 1 ∈ Region.ready .any ops listed := by
          unfold Region.ready
          rw [List.mem_filter]
          refine ⟨by simpa using hlt, ?_⟩
          rw [hl, ho]
          simp only [Bool.not_false, Bool.true_and, Option.map_some, Option.getD_some]
          refine Array.all_eq_true'.2 fun e he => ?_
          cases hb : Region.binds .any e with
          | false => rfl
          | true =>
            have h1 := (struct_at hs ho).1 e he hb
            have h2 := ih e.on (by omega) (by omega)
            have h3 : e.on < listed.size := by omega
            simp [h3] at h2
            simp [h3, h2]
        rw [hr] at hm
        cases hm
  intro fuel
  induction fuel with
  | zero =>
    intro listed a w hsz hun0 hB hI hF hcl hn
    exfalso
    have hnil : (List.range ops.size).filter (fun i => !listed.getD i true) = [] := List.eq_nil_of_length_eq_zero (by omega)
    have := List.filter_eq_nil_iff.1 hnil L (by simp; omega)
    rw [hun0] at this
    simp at this
  | succ fuel ih =>
    intro listed a w hsz hun0 hB hI hF hcl hn
    refine ⟨fun hr => (by have := (hall listed hsz hr L L (Nat.le_refl _) (by omega)).symm.trans hun0
                          cases this), fun i hi => ?_⟩
    have hi' := hi
    unfold Region.ready at hi'
    rw [List.mem_filter] at hi'
    obtain ⟨hir, hib⟩ := hi'
    have hilt : i < ops.size := by simpa using hir
    obtain ⟨o, ho⟩ : ∃ o, ops[i]? = some o := ⟨ops[i], by simp [hilt]⟩
    rw [ho] at hib
    simp only [Option.map_some, Option.getD_some, Bool.and_eq_true, Bool.not_eq_true'] at hib
    obtain ⟨hun, hpre⟩ := hib
    have hpre' : ∀ j, waitsOn o j = true → listed.getD j false = true := by
      intro j hj
      unfold waitsOn at hj
      obtain ⟨e, he, hb⟩ := List.any_eq_true.1 hj
      have he := Array.mem_toList_iff.1 he
      simp only [Bool.and_eq_true, beq_iff_eq] at hb
      have := Array.all_eq_true'.1 hpre e he
      rw [hb.1] at this
      simpa [hb.2] using this
    have hst := struct_at hs ho
    have hgd : ∀ j d, (listed.setIfInBounds i true).getD j d = if j = i then true else listed.getD j d := by
      intro j d
      have hil : i < listed.size := by omega
      by_cases hji : j = i
      · subst hji; simp [hil]
      · rw [if_neg hji]
        simp only [Array.getD_eq_getD_getElem?]
        rw [Array.getElem?_setIfInBounds_ne (fun e => hji e.symm)]
    by_cases hiL : i = L
    · subst hiL
      obtain rfl : o = oL := Option.some.inj (ho.symm.trans hoL)
      have hlt : ∀ (n j : Nat), i - j ≤ n → j < i → listed.getD j true = true := by
        intro n
        induction n with
        | zero => intro j h1 h2; omega
        | succ n ihn =>
          intro j h1 h2
          have hu := List.all_eq_true.1 hup j (by simpa using h2)
          simp only [Bool.and_eq_true, decide_eq_true_eq] at hu
          obtain ⟨⟨u1, u2⟩, u3⟩ := hu
          obtain ⟨ou, hou⟩ : ∃ ou, ops[up j]? = some ou := ⟨ops[up j]'(by omega), by simp [show up j < ops.size by omega]⟩
          rw [hou] at u3
          have u3 : waitsOn ou j = true := u3
          have hj : listed.getD j false = true := by
            by_cases hui : up j = i
            · rw [hui, ho] at hou
              injection hou with hou
              subst hou
              exact hpre' j u3
            · exact hcl (up j) ou j hou (ihn (up j) (by omega) (by omega)) u3
          have hjl : j < listed.size := by omega
          simp [hjl] at hj
          simp [hjl, hj]
      have hallF : ∀ j, j + 1 < ops.size → Fact dep Fs j a w := fun j hj => hF j (by omega) (hlt i j (by omega) (by omega))
      obtain ⟨hw, f, args, hr, hg⟩ := hlast a w hB hI hallF
      unfold wpOp
      rw [ho]
      simp only [hw, if_true, Oper.wp, hr, Oper.upon]
      refine .inl (hg.mono ?_)
      rintro e w' ⟨v, rfl, hq⟩
      have hnone : Region.ready .any ops (listed.setIfInBounds i true) = [] := by
        unfold Region.ready
        rw [List.filter_eq_nil_iff]
        intro j hj
        have hj' : j < ops.size := by simpa using hj
        have : (listed.setIfInBounds i true).getD j true = true := by
          rw [hgd]
          by_cases hji : j = i
          · simp [hji]
          · rw [if_neg hji]; exact hlt i j (by omega) (by omega)
        simp only [this, Bool.not_true, Bool.false_and, Bool.false_eq_true, not_false_eq_true]
      cases fuel with
      | zero => exact ⟨hnone, hq⟩
      | succ fuel => exact ⟨fun _ => hq, fun j hj => by rw [hnone] at hj; cases hj⟩
    have howe : Owes P ops a0 D [] dep Inv R Fs i o := hops i o (by omega) ho
    have hfacts : ∀ j, waitsOn o j = true → Fact dep Fs j a w := by
      intro j hj
      have h1 := hpre' j hj
      have hjl : j < listed.size := by
        rcases Nat.lt_or_ge j listed.size with h | h
        · exact h
        · simp [h] at h1
      refine hF j (by omega) ?_
      simp [hjl] at h1
      simp [hjl, h1]
    -- what holds behind operation i
    have hnext : ∀ a' w', (∃ v, a' = a.put o.dst v) → Inv w' → Fact dep Fs i a' w' → (w' = w ∨ (R w w' ∧ noLate ops [] i = true)) →
        wpAny P .any ops Q fuel (listed.setIfInBounds i true) a' w' := by
      rintro a' w' ⟨v, rfl⟩ hI' hFi hch
      refine ih _ _ _ (by simp [hsz]) (by rw [hgd, if_neg (fun e => hiL e.symm)]; exact hun0) (base_put hB _ hst.2.1 v) hI' ?_ ?_ ?_
      · intro j hj hlj
        rw [hgd] at hlj
        by_cases hji : j = i
        · subst hji; exact hFi
        rw [if_neg hji] at hlj
        obtain ⟨oj, hoj⟩ : ∃ oj, ops[j]? = some oj := ⟨ops[j], by simp [hj]⟩
        have hnw : waitsOn oj i = false := by
          cases hw : waitsOn oj i with
          | false => rfl
          | true =>
            have h1 := hcl j oj i hoj hlj hw
            have hil : i < listed.size := by omega
            simp [hil] at h1 hun
            rw [h1] at hun
            cases hun
        have h1 : Fact dep Fs j (a.put o.dst v) w := fact_put _ _ (fun d hd => hst.2.2 j oj hoj hji hnw d hd) (hF j hj hlj)
        rcases hch with rfl | ⟨hR, hnl⟩
        · exact h1
        · exact hstab j _ _ _ hR h1
      · intro j oj k hoj hlj hw
        rw [hgd] at hlj ⊢
        by_cases hki : k = i
        · simp [hki]
        rw [if_neg hki]
        by_cases hji : j = i
        · subst hji
          rw [ho] at hoj
          injection hoj with hoj
          subst hoj
          exact hpre' k hw
        · rw [if_neg hji] at hlj
          exact hcl j oj k hoj hlj hw
      · have hsub : (List.range ops.size).filter (fun j => !(listed.setIfInBounds i true).getD j true) = ((List.range ops.size).filter fun j => !listed.getD j true).filter (fun j => !(j == i)) := by
          rw [List.filter_filter]
          refine List.filter_congr fun j _ => ?_
          rw [hgd]
          by_cases hji : j = i <;> simp [hji]
        rw [hsub]
        have hlt : (((List.range ops.size).filter fun j => !listed.getD j true).filter (fun j => !(j == i))).length < ((List.range ops.size).filter fun j => !listed.getD j true).length := by
          rw [List.length_filter_lt_length_iff_exists]
          exact ⟨i, List.mem_filter.2 ⟨hir, by simp [hun]⟩, by simp⟩
        omega
    have hgive : ∀ v w', Gives ops [] dep Inv R Fs i o a w v w' → wpAny P .any ops Q fuel (listed.setIfInBounds i true) (a.put o.dst v) w' := by
      rintro v w' ⟨h1, h2, h3⟩
      refine hnext _ _ ⟨v, rfl⟩ h1 ?_ h3
      unfold Fact
      cases hd : o.dst with
      | none => rw [hd] at h2; exact h2
      | some d =>
        rw [hd] at h2
        obtain ⟨e1, e2⟩ := struct_dst hs ho hd
        rw [e1, sl_put_same _ _ (by rw [hB.1]; exact e2)]
        exact h2
    unfold wpOp
    rw [ho]
    rcases howe a w hB hI hfacts with ⟨hw, v, w', hr, hg⟩ | ⟨hw, w', hr, hg⟩ | ⟨hw, f, args, hr, hg⟩ | ⟨hw, hg⟩
    · simp only [hw, if_true, Oper.wp, hr, Oper.upon]
      exact .inl (hgive _ _ hg)
    · simp only [hw, if_true, Oper.wp, hr, Oper.upon]
      exact .inl (hgive _ _ hg)
    · simp only [hw, if_true, Oper.wp, hr, Oper.upon]
      refine .inl (hg.mono ?_)
      rintro e w' ⟨v, rfl, hg'⟩
      exact hgive _ _ hg'
    · simp only [hw, Bool.false_eq_true, if_false]
      exact hgive _ _ hg
theorem region_last {id:Nat} {w:World} {up:Nat → Nat} {L:Nat} {oL:Oper} (hm:P.follows .mixedOrders=true) (hL : ops.size=L+1) (hoL : ops[L]?=some oL) (hup : upOk ops L up=true) (hs : structOk ops a0.tmps.size D dep=true)
  (hstab : ∀ j a w w',R w w' → Fact dep Fs j a w → Fact dep Fs j a w') (hI:Inv w.drew)
  (hops : ∀ i o,i < L → ops[i]?=some o → Owes P ops a0 D [] dep Inv R Fs i o) (hlast:OwesLast P ops Q a0 D dep Inv Fs oL):(Code.region id ops true).wp P Q a0 w :=
 wp_region_any hm (rg_last hL hoL hup hs hstab hops hlast ops.size _ a0 _ (by simp) (by simp [hL]) ⟨rfl,rfl,fun _ _=>rfl⟩ hI
  (fun i hi h=>by simp [hi] at h)
  (fun j oj i hj h=>by
   have : j < ops.size:=by
    rcases Nat.lt_or_ge j ops.size with h | h
    ·exact h
    ·simp [h] at hj
   simp [this] at h)
  (by have:=List.length_filter_le (fun i=>!(Array.replicate ops.size false).getD i true) (List.range ops.size); simpa using this))
theorem region_last2 {id:Nat} {w:World} {up:Nat → Nat} {L:Nat} {oL:Oper} (hm:P.follows .mixedOrders=true) (hL : ops.size=L+1) (hoL : ops[L]?=some oL) (hup : upOk ops L up=true) (hs : structOk ops a0.tmps.size D dep=true)
  (hstab : ∀ j a w w',R w w' → Fact dep Fs j a w → Fact dep Fs j a w') (hI:Inv w.drew)
  (hops:OwesAll P ops a0 D [] dep Inv R Fs 0 (ops.toList.take L)) (hlast:OwesLast P ops Q a0 D dep Inv Fs oL):(Code.region id ops true).wp P Q a0 w :=
 region_last hm hL hoL hup hs hstab hI (fun i o hi ho=>by
  have:=owes_at hops i o (by rw [List.getElem?_take_of_lt hi]; simpa using ho)
  rwa [Nat.zero_add] at this) hlast
end
end Go.Proofs.YtjdlgannencchaaGreatDoor
namespace Go.Proofs.YtjdlgannencchaaGreatDoor
open Go.ChangeShapes Go.WideShapes Go.ChangeAt Go.RowKit
set_option linter.unusedVariables false
set_option linter.unusedSimpArgs false
theorem hd_Number {f:FuncId} {own:Bool} (h:Cok Tryz.prog ⟨f,[.o (.int .i64)],[.o .s],own,fun x=>itr m_Number_s 30 x⟩):Cok Tryz.prog ⟨f,[.o (.int .i64)],[.o .s],own,fun x=>m_spec_l1Number x⟩:=⟨h.1,fun x res hm=>h.2 x res (num_r hm)⟩
theorem bs_after {w w1:World} (h:Bs w) (hb:Below w.heap.size w w1):Bs w1:=by
 obtain ⟨h1,m,h2⟩:=h
 exact ⟨fun w' h'=>h1 w' (below_after' h' hb),m,fun w' h'=>h2 w' (below_after' h' hb)⟩
theorem num_calls {own:Bool} (hN:Cok Tryz.prog ⟨118,[.o .s],[.o (.int .i64),.o .b],own,fun x=>m_impl_readNumber x⟩) {w:World} (hbs:Bs w) {s:ByteArray} {r:Int×Bool} (hm : m_impl_readNumber s=some r) {w1:World} (h1:Below w.heap.size w w1) :
  Calls Tryz.prog 118 #[.string s] w1 fun e w'=>e=.returned (.tuple #[.int .i64 r.1,.bool r.2])∧Below w1.heap.size w1 w':=by
 have h:=hN.2 s r hm (parE []) w1 w1 [] (bs_after hbs h1) ⟨_,_,rfl,⟨s,rfl⟩,rfl⟩ (St.nil w1)
 refine h.mono ?_
 rintro e w' ⟨us,A,rfl,⟨v1,v2,v3,A1,A2,A3,hv,rfl,q1,q2,q3⟩,S⟩
 obtain ⟨v,vr,u,ur,B1,B2,rfl,rfl,rfl,⟨k,z,rfl,rfl,rfl⟩,v,vr,u,ur,B1,B2,rfl,rfl,rfl,⟨y,rfl,rfl,rfl⟩,rfl,rfl,rfl⟩:=q1
 have hv : [PV.int .i64 r.1,PV.b r.2]=_:=hv
 simp only [List.cons_append,List.nil_append,List.cons.injEq,PV.int.injEq,PV.b.injEq] at hv
 obtain ⟨⟨rfl,rfl⟩,rfl,_⟩:=hv
 exact ⟨rfl,S.below⟩
theorem tables (w:World) : ∃ w1 w2 w3 w4 w5 w6 w7 w8,(Instr.makeMap 159 none).run Tryz.prog (w.alloc (.cells #[.int .i64 0,.int .i64 0,.int .i64 0] 86))=.ok (.map (some (w.heap.size+1))) (((w.alloc (.cells #[.int .i64 0,.int .i64 0,.int .i64 0] 86))).alloc (.map #[] 0))∧(Instr.makeMap 159 none).run Tryz.prog w5=.ok (.map (some (w.heap.size+2))) (w5.alloc (.map #[] 0))∧(Instr.mapUpdate 159 (.map (some (w.heap.size+1))) (.string { data:=#[111,110] }) (.int .i64 0)).run Tryz.prog (((w.alloc (.cells #[.int .i64 0,.int .i64 0,.int .i64 0] 86))).alloc (.map #[] 0))=.ok () w1∧(Instr.mapUpdate 159 (.map (some (w.heap.size+1))) (.string { data:=#[111,102,102] }) (.int .i64 1)).run Tryz.prog w1=.ok () w2∧(Instr.mapUpdate 159 (.map (some (w.heap.size+1))) (.string { data:=#[101,97,114,116,104] }) (.int .i64 2)).run Tryz.prog w2=.ok () w3∧(Instr.mapUpdate 159 (.map (some (w.heap.size+1))) (.string { data:=#[99,108,101,97,114] }) (.int .i64 3)).run Tryz.prog w3=.ok () w4∧(Instr.mapUpdate 159 (.map (some (w.heap.size+1))) (.string { data:=#[98,114,101,97,107] }) (.int .i64 6)).run Tryz.prog w4=.ok () w5∧(Instr.mapUpdate 159 (.map (some (w.heap.size+2))) (.string { data:=#[105,115,115,117,101] }) (.int .i64 4)).run Tryz.prog (w5.alloc (.map #[] 0))=.ok () w6∧(Instr.mapUpdate 159 (.map (some (w.heap.size+2))) (.string { data:=#[114,101,116,117,114,110] }) (.int .i64 5)).run Tryz.prog w6=.ok () w7∧(Instr.mapUpdate 159 (.map (some (w.heap.size+2))) (.string { data:=#[109,101,110,100] }) (.int .i64 7)).run Tryz.prog w7=.ok () w8∧MapIs w8 (w.heap.size+1) kd1∧MapIs w8 (w.heap.size+2) kd2∧w8.heap.size=w.heap.size+3∧w5.heap.size=w.heap.size+2∧Below w.heap.size w w8∧Bk w8 w.heap.size 86 #[.int .i64 0,.int .i64 0,.int .i64 0]:=by
 have ht:Tryz.prog.underlying 159=some (.map 9 3):=Tryz.underlying159
 have hk:Tryz.prog.underlying 9=some .string:=Tryz.underlying9
 have b0:Below w.heap.size w (((w.alloc (.cells #[.int .i64 0,.int .i64 0,.int .i64 0] 86))).alloc (.map #[] 0)):=(Below.refl _ _).alloc (Nat.le_refl _) _ |>.alloc (by simp) _
 have B0:Bk (((w.alloc (.cells #[.int .i64 0,.int .i64 0,.int .i64 0] 86))).alloc (.map #[] 0)) w.heap.size 86 #[.int .i64 0,.int .i64 0,.int .i64 0]:=(Bk.new w _ _).alloc _
 have m0:MapIs (((w.alloc (.cells #[.int .i64 0,.int .i64 0,.int .i64 0] 86))).alloc (.map #[] 0)) (w.heap.size+1) []:=by have:=map_new ((w.alloc (.cells #[.int .i64 0,.int .i64 0,.int .i64 0] 86))); simpa using this
 have z0:(((w.alloc (.cells #[.int .i64 0,.int .i64 0,.int .i64 0] 86))).alloc (.map #[] 0)).heap.size=w.heap.size+2:=by simp
 obtain ⟨w1,r1,m1,z1,g1⟩:=map_put m0 ht hk (k:={ data:=#[111,110] }) 0 rfl
 have b1:=below_put b0 g1 (by omega)
 have B1:=B0.grown' g1 (by omega)
 obtain ⟨w2,r2,m2,z2,g2⟩:=map_put m1 ht hk (k:={ data:=#[111,102,102] }) 1 rfl
 have b2:=below_put b1 g2 (by omega)
 have B2:=B1.grown' g2 (by omega)
 obtain ⟨w3,r3,m3,z3,g3⟩:=map_put m2 ht hk (k:={ data:=#[101,97,114,116,104] }) 2 rfl
 have b3:=below_put b2 g3 (by omega)
 have B3:=B2.grown' g3 (by omega)
 obtain ⟨w4,r4,m4,z4,g4⟩:=map_put m3 ht hk (k:={ data:=#[99,108,101,97,114] }) 3 rfl
 have b4:=below_put b3 g4 (by omega)
 have B4:=B3.grown' g4 (by omega)
 obtain ⟨w5,r5,m5,z5,g5⟩:=map_put m4 ht hk (k:={ data:=#[98,114,101,97,107] }) 6 rfl
 have b5:=below_put b4 g5 (by omega)
 have B5:=B4.grown' g5 (by omega)
 have z5' : w5.heap.size=w.heap.size+2:=by omega
 have n0:MapIs (w5.alloc (.map #[] 0)) w5.heap.size []:=map_new w5
 have m5':=map_alloc m5 (.map #[] 0)
 have b5':Below w.heap.size w (w5.alloc (.map #[] 0)):=b5.alloc (by omega) _
 have B5':=B5.alloc (.map #[] 0)
 obtain ⟨w6,r6,n1,z6,g6⟩:=map_put n0 ht hk (k:={ data:=#[105,115,115,117,101] }) 4 rfl
 have m6:=map_keep m5' g6 (by omega)
 have b6:=below_put b5' g6 (by omega)
 have B6:=B5'.grown' g6 (by omega)
 obtain ⟨w7,r7,n2,z7,g7⟩:=map_put n1 ht hk (k:={ data:=#[114,101,116,117,114,110] }) 5 rfl
 have m7:=map_keep m6 g7 (by omega)
 have b7:=below_put b6 g7 (by omega)
 have B7:=B6.grown' g7 (by omega)
 obtain ⟨w8,r8,n3,z8,g8⟩:=map_put n2 ht hk (k:={ data:=#[109,101,110,100] }) 7 rfl
 have m8:=map_keep m7 g8 (by omega)
 have b8:=below_put b7 g8 (by omega)
 have B8:=B7.grown' g8 (by omega)
 have z6':(w5.alloc (.map #[] 0)).heap.size=w.heap.size+3:=by simp; omega
 have q0:(Instr.makeMap 159 none).run Tryz.prog (w.alloc (.cells #[.int .i64 0,.int .i64 0,.int .i64 0] 86))=.ok (.map (some (w.heap.size+1))) (((w.alloc (.cells #[.int .i64 0,.int .i64 0,.int .i64 0] 86))).alloc (.map #[] 0)):=by have:=run_makeMap (P:=Tryz.prog) 159 ((w.alloc (.cells #[.int .i64 0,.int .i64 0,.int .i64 0] 86))); simpa using this
 have q5:(Instr.makeMap 159 none).run Tryz.prog w5=.ok (.map (some w5.heap.size)) (w5.alloc (.map #[] 0)):=rfl
 rw [z5'] at q5 r6 r7 r8 n3
 exact ⟨w1,w2,w3,w4,w5,w6,w7,w8,q0,q5,r1,r2,r3,r4,r5,r6,r7,r8,m8,n3,by omega,z5',b8,B8⟩
theorem ro_cell {w:World} {A:Option Addr} {c:Nat} {ws:List ByteArray} (R:Rc w 1 A ws.length c (ws.flatMap (EK.s).enc)) (h : 0 < ws.length) : ∃ b off,A=some ⟨b,off,none⟩∧b < w.heap.size∧∀ j s,ws[j]?=some s → w.cell? ⟨b,off+j,none⟩=some (.string s):=by
 have hf : ws.flatMap (EK.s).enc=ws.map Value.string:=by rw [List.map_eq_flatMap]; rfl
 obtain ⟨b,off,hA,hcell⟩:=R.rd.2 (by omega)
 rw [hf] at hcell
 have hc : ∀ j s,ws[j]?=some s → w.cell? ⟨b,off+j,none⟩=some (.string s):=fun j z hz=>hcell j _ (by rw [List.getElem?_map,hz]; rfl)
 refine ⟨b,off,hA,?_,hc⟩
 have:=hc 0 ws[0] (by simp)
 rcases Nat.lt_or_ge b w.heap.size with h | h
 ·exact h
 ·simp [World.cell?,Array.getElem?_eq_none h] at this
def RdPost (w:World) (r:Int×Int×Int×Bool) (e:Ending) (w':World):Prop:=e=.returned (.tuple #[.agg #[.int .i64 r.1,.int .i64 r.2.1,.int .i64 r.2.2.1],.bool r.2.2.2])∧Below w.heap.size w w'
set_option maxRecDepth 20000 in
theorem read_none {w:World} {A:Option Addr} {c n:Nat} (h2 : ¬ n=2) (h3 : ¬ n=3):Calls Tryz.prog 52 #[.slice A n c] w (RdPost w (0,0,0,false)):=by
 obtain ⟨w1,w2,w3,w4,w5,w6,w7,w8,q1,q2,r1,r2,r3,r4,r5,r6,r7,r8,m1,m2,z8,z5,b8,B8⟩:=tables w
 have e2:((n:Int) == 2)=false:=by rw [beq_eq_false_iff_ne]; omega
 have e3:((n:Int) == 3)=false:=by rw [beq_eq_false_iff_ne]; omega
 have f8:=B8.c3
 go_enter Tryz.func52,Tryz.ntmps52
 go_wp2
 exact bodyPost_ret (v:=.tuple #[.agg #[.int .i64 0,.int .i64 0,.int .i64 0],.bool false]) (by simp [results,Tryz.results52,go_sem,*]) rfl ⟨rfl,(by repeat' (first | exact Below.refl _ _ | assumption | refine Below.drew ?_ | refine cell_drew ?_ | refine Below.setCell ?_ (by (try simp); (try omega)) _ | refine Below.alloc ?_ (by (try simp); (try omega)) _ | refine below_step (by assumption) (by (try simp); (try omega)) ?_))⟩
set_option maxRecDepth 20000 in
theorem read_two {own:Bool} (hN:Cok Tryz.prog ⟨118,[.o .s],[.o (.int .i64),.o .b],own,fun x=>m_impl_readNumber x⟩) {w:World} (hbs:Bs w) {x y:ByteArray} {A:Option Addr} {c:Nat} (R:Rc w 1 A [x,y].length c ([x,y].flatMap (EK.s).enc)) {p:Int×Bool} (hp : m_impl_readNumber y=some p) :
  Calls Tryz.prog 52 #[.slice A 2 c] w (RdPost w ((lkS kd1 x).1,p.1,0,(lkS kd1 x).2 && p.2)):=by
 obtain ⟨b,off,rfl,hb,hc⟩:=ro_cell R (by simp)
 have c0 : w.cell? ⟨b,off,none⟩=some (.string x):=hc 0 x rfl
 have c1 : w.cell? ⟨b,off+1,none⟩=some (.string y):=hc 1 y rfl
 clear hc R
 obtain ⟨w1,w2,w3,w4,w5,w6,w7,w8,q1,q2,r1,r2,r3,r4,r5,r6,r7,r8,m1,m2,z8,z5,b8,B8⟩:=tables w
 have hc0 : ∀ o,(w8.alloc o).cell? ⟨b,off,none⟩=some (.string x):=fun o=>((b8.alloc (by omega) o).cell (p:=⟨b,off,none⟩) hb).trans c0
 have hc1 : ∀ o,(w8.alloc o).cell? ⟨b,off+1,none⟩=some (.string y):=fun o=>((b8.alloc (by omega) o).cell (p:=⟨b,off+1,none⟩) hb).trans c1
 have hl : ∀ o,(Instr.lookup 159 (.map (some (w.heap.size+1))) (.string x) true).run Tryz.prog (w8.alloc o)=.ok (.tuple #[.int .i64 (lkS kd1 x).1,.bool (lkS kd1 x).2]) (w8.alloc o):=fun o=>map_look (map_alloc m1 o) Tryz.underlying159 Tryz.underlying9 (by simp [go_sem]) x
 have BD : ∀ cs,Bk (w8.alloc (.cells cs 86)) (w.heap.size+3) 86 cs:=fun cs=>by have:=Bk.new w8 86 cs; rwa [z8] at this
 have B0 : ∀ cs,Bk (w8.alloc (.cells cs 86)) w.heap.size 86 #[.int .i64 0,.int .i64 0,.int .i64 0]:=fun cs=>B8.alloc _
 have bA : ∀ o,Below w.heap.size w (w8.alloc o):=fun o=>b8.alloc (by omega) o
 have f8:=B8.c3
 generalize lkS kd1 x=l at *
 obtain ⟨l1,l2⟩:=l
 obtain ⟨p1,p2⟩:=p
 go_enter Tryz.func52,Tryz.ntmps52
 go_wp2_with fail
 refine (num_calls hN hbs hp (bA _)).mono ?_
 rintro e w9 ⟨rfl,hb9⟩
 have b9:=below_after' hb9 (bA _)
 have f0:=((B0 _).after hb9).c3
 have f1:=((BD _).after hb9).c3
 clear hb9 bA B0 BD f8 B8 b8 hl hc0 hc1 m1 m2 r1 r2 r3 r4 r5 r6 r7 r8 q1 q2
 cases l2
 all_goals
  go_wp2
  exact bodyPost_ret (v:=.tuple #[.agg #[.int .i64 l1,.int .i64 p1,.int .i64 0],.bool _]) (by simp [results,Tryz.results52,go_sem,*]) rfl ⟨rfl,(by repeat' (first | exact Below.refl _ _ | assumption | refine Below.drew ?_ | refine cell_drew ?_ | refine Below.setCell ?_ (by (try simp); (try omega)) _ | refine Below.alloc ?_ (by (try simp); (try omega)) _ | refine below_step (by assumption) (by (try simp); (try omega)) ?_))⟩
set_option maxRecDepth 20000 in
set_option maxHeartbeats 2000000 in
theorem read_three {own:Bool} (hN:Cok Tryz.prog ⟨118,[.o .s],[.o (.int .i64),.o .b],own,fun x=>m_impl_readNumber x⟩) {w:World} (hbs:Bs w) {x y z:ByteArray} {A:Option Addr} {c:Nat} (R:Rc w 1 A [x,y,z].length c ([x,y,z].flatMap (EK.s).enc)) {p q:Int×Bool} (hp : m_impl_readNumber y=some p) (hq : m_impl_readNumber z=some q) :
  Calls Tryz.prog 52 #[.slice A 3 c] w (RdPost w ((lkS kd2 x).1,p.1,q.1,(lkS kd2 x).2 && p.2 && q.2)):=by
 obtain ⟨b,off,rfl,hb,hc⟩:=ro_cell R (by simp)
 have c0 : w.cell? ⟨b,off,none⟩=some (.string x):=hc 0 x rfl
 have c1 : w.cell? ⟨b,off+1,none⟩=some (.string y):=hc 1 y rfl
 have c2 : w.cell? ⟨b,off+2,none⟩=some (.string z):=hc 2 z rfl
 clear hc R
 obtain ⟨w1,w2,w3,w4,w5,w6,w7,w8,q1,q2,r1,r2,r3,r4,r5,r6,r7,r8,m1,m2,z8,z5,b8,B8⟩:=tables w
 have hc0 : ∀ o,(w8.alloc o).cell? ⟨b,off,none⟩=some (.string x):=fun o=>((b8.alloc (by omega) o).cell (p:=⟨b,off,none⟩) hb).trans c0
 have hc1 : ∀ o,(w8.alloc o).cell? ⟨b,off+1,none⟩=some (.string y):=fun o=>((b8.alloc (by omega) o).cell (p:=⟨b,off+1,none⟩) hb).trans c1
 have hl : ∀ o,(Instr.lookup 159 (.map (some (w.heap.size+2))) (.string x) true).run Tryz.prog (w8.alloc o)=.ok (.tuple #[.int .i64 (lkS kd2 x).1,.bool (lkS kd2 x).2]) (w8.alloc o):=fun o=>map_look (map_alloc m2 o) Tryz.underlying159 Tryz.underlying9 (by simp [go_sem]) x
 have BD : ∀ cs,Bk (w8.alloc (.cells cs 86)) (w.heap.size+3) 86 cs:=fun cs=>by have:=Bk.new w8 86 cs; rwa [z8] at this
 have B0 : ∀ cs,Bk (w8.alloc (.cells cs 86)) w.heap.size 86 #[.int .i64 0,.int .i64 0,.int .i64 0]:=fun cs=>B8.alloc _
 have bA : ∀ o,Below w.heap.size w (w8.alloc o):=fun o=>b8.alloc (by omega) o
 have f8:=B8.c3
 generalize lkS kd2 x=l at *
 obtain ⟨l1,l2⟩:=l
 obtain ⟨p1,p2⟩:=p
 obtain ⟨p3,p4⟩:=q
 go_enter Tryz.func52,Tryz.ntmps52
 go_wp2_with fail
 refine (num_calls hN hbs hp (bA _)).mono ?_
 rintro e w9 ⟨rfl,hb9⟩
 have z9:=hb9.size
 simp at z9
 have b9:=below_after' hb9 (bA _)
 have f0:=((B0 _).after hb9).c3
 have f1:=((BD _).after hb9).c3
 have e2:=(b9.cell (p:=⟨b,off+2,none⟩) hb).trans c2
 have D:=(BD _).after hb9
 have D0:=(B0 _).after hb9
 clear hb9 bA B0 BD f8 B8 b8 hl hc0 hc1 m1 m2 r1 r2 r3 r4 r5 r6 r7 r8 q1 q2
 go_wp2_with fail
 have Dn:Bk (w9.setCell ⟨w.heap.size+3,1,none⟩ (.int .i64 p1)) (w.heap.size+3) 86 #[.int .i64 l1,.int .i64 p1,.int .i64 0]:=D.set_ 1 _
 have Dm:Bk (w9.setCell ⟨w.heap.size+3,1,none⟩ (.int .i64 p1)) w.heap.size 86 #[.int .i64 0,.int .i64 0,.int .i64 0]:=D0.far (by simp) _
 have bn:Below w.heap.size w (w9.setCell ⟨w.heap.size+3,1,none⟩ (.int .i64 p1)):=b9.setCell (by simp) _
 refine (num_calls hN hbs hq bn).mono ?_
 rintro e w10 ⟨rfl,hb10⟩
 have b10:=below_after' hb10 bn
 have g0:=(Dm.after hb10).c3
 have g1:=(Dn.after hb10).c3
 clear hb10 Dn Dm D D0 f0 f1 b9 bn
 cases l2 <;> cases p2
 all_goals
  go_wp2
  exact bodyPost_ret (v:=.tuple #[.agg #[.int .i64 l1,.int .i64 p1,.int .i64 p3],.bool _]) (by simp [results,Tryz.results52,go_sem,*]) rfl ⟨rfl,(by repeat' (first | exact Below.refl _ _ | assumption | refine Below.drew ?_ | refine cell_drew ?_ | refine Below.setCell ?_ (by (try simp); (try omega)) _ | refine Below.alloc ?_ (by (try simp); (try omega)) _ | refine below_step (by assumption) (by (try simp); (try omega)) ?_))⟩
theorem hd_readDeed {own : Bool} (co : CallOk Tryz.prog 52) (hN : Cok Tryz.prog ⟨118, [.o .s], [.o (.int .i64), .o .b], own, fun x => m_impl_readNumber x⟩) : Cok Tryz.prog ⟨52, [.o (.sl .ro 9 .s)], [.g [.int .i64, .int .i64, .int .i64], .o .b], false, fun x => m_impl_readDeed x⟩ := ⟨co, fun x res hm e w0 w X hbs hp hS => by
  have hm : m_impl_readDeed x = some res := hm
  obtain ⟨v, vr, hv, ⟨l, hl, hro⟩, _⟩ := hp
  have hl := (List.head_eq_of_cons_eq hv).trans hl
  injection hl with _ hl
  subst hl
  have R := hro w _ hS (fun y hy => List.mem_append_right _ hy)
  have hbs1 := bs_after hbs hS.below
  have key : Calls Tryz.prog 52 #[.slice (e.a 0) x.length (e.c 0)] w (RdPost w res) := by
    unfold m_impl_readDeed at hm
    by_cases h2 : x.length = 2
    · obtain ⟨a, b, rfl⟩ : ∃ a b, x = [a, b] := by
        match x, h2 with
        | [a, b], _ => exact ⟨a, b, rfl⟩
      rw [decide_eq_true h2] at hm
      obtain ⟨p, hp, hm⟩ := bind_ex hm
      injection hm with hm
      subst hm
      exact read_two hN hbs1 R hp
    by_cases h3 : x.length = 3
    · obtain ⟨a, b, c, rfl⟩ : ∃ a b c, x = [a, b, c] := by
        match x, h3 with
        | [a, b, c], _ => exact ⟨a, b, c, rfl⟩
      rw [decide_eq_false h2, decide_eq_true h3] at hm
      obtain ⟨p, hp, hm⟩ := bind_ex hm
      obtain ⟨q, hq, hm⟩ := bind_ex hm
      injection hm with hm
      subst hm
      exact read_three hN hbs1 R hp hq
    rw [decide_eq_false h2, decide_eq_false h3] at hm
    injection hm with hm
    subst hm
    exact read_none h2 h3
  refine Calls.mono key ?_
  rintro en w' ⟨rfl, hb⟩
  exact ⟨[_, _], [], rfl, ⟨[_, _, _, _], [], [], [], [], [], rfl, rfl, ⟨[_, _, _], [_], [_, _, _], [_], [], [], rfl, rfl, rfl, ⟨_, _, _, _, [], [], rfl, rfl, rfl, ⟨_, _, rfl, rfl, rfl⟩, _, _, _, _, [], [], rfl, rfl, rfl, ⟨_, _, rfl, rfl, rfl⟩, _, _, _, _, [], [], rfl, rfl, rfl, ⟨_, _, rfl, rfl, rfl⟩, rfl, rfl, rfl⟩, ⟨_, [], _, [], [], [], rfl, rfl, rfl, ⟨_, rfl, rfl, rfl⟩, rfl, rfl, rfl⟩⟩, ⟨rfl, rfl⟩, ⟨[], [], [], [], rfl, rfl, ⟨rfl, rfl⟩, ⟨rfl, rfl⟩⟩⟩, hS.quiet hb⟩⟩
end Go.Proofs.YtjdlgannencchaaGreatDoor
namespace Go.Proofs.YtjdlgannencchaaGreatDoor
open Go.ChangeShapes Go.WideShapes Go.ChangeAt Go.RowKit
set_option linter.unusedVariables false
set_option linter.unusedSimpArgs false
abbrev eK3:EK:=.p (.int .i64) (.p (.int .i64) (.int .i64))
theorem nv_calls {own:Bool} (hN:Cok Tryz.prog ⟨100,[.g [.int .i64,.sl .ro 77 eK3]],[.o .b],own,fun x=>m_impl_NetValid x.1 x.2⟩) {w:World} (hbs:Bs w) {b:Int} {ls:List (Int×Int×Int)} {A:Option Addr} {c:Nat} (R:Rc w 3 A ls.length c (ls.flatMap eK3.enc)) {p:Bool} (hp : m_impl_NetValid b ls=some p) {w1:World} (h1:Below w.heap.size w w1) :
  Calls Tryz.prog 100 #[.agg #[.int .i64 b,.slice A ls.length c]] w1 fun e w'=>e=.returned (.bool p)∧Below w1.heap.size w1 w':=by
 have R1:Rc w1 3 A ls.length c (ls.flatMap eK3.enc):=⟨R.rd.after h1,R.cap⟩
 refine (law_c hN (x:=(b,ls)) hp (e:=parE [(none,0),(A,c)]) (w:=w1) (b:=p) (bs_after hbs h1) ⟨_,_,rfl,⟨.i64,b,rfl⟩,_,_,rfl,⟨ls,rfl,fun u L S _=>S.rc0 R1⟩,rfl⟩ rfl rfl rfl).mono ?_
 rintro e w' ⟨rfl,S⟩
 exact ⟨rfl,S.below⟩
theorem at_after {T e:TypeId} {B b:Nat} {p:Value} {bs:List Value} {w w':World} (h:Lib.BuilderAtF T e B b p bs w) (hb:Below w.heap.size w w'):Lib.BuilderAtF T e B b p bs w':=by
 have hlt:=h.lt
 obtain ⟨h1,v,h2,h3,h4⟩:=h
 refine ⟨h1,v,(hb.block b hlt).trans h2,h3.kept (row:=none) ⟨hb.os,hb.tape,hb.output,hb.size,fun k hk _=>hb.block k hk⟩ ?_,h4⟩
 cases v.ownBlock <;> simp
theorem bld_after {T e:TypeId} {B b:Nat} {bs:List Value} {w w':World} (h:Lib.IsBuilderF T e B b bs w) (hb:Below w.heap.size w w'):Lib.IsBuilderF T e B b bs w' :=
 h.imp (fun h=>at_after h hb) (fun h=>at_after h hb)
theorem write_calls (B b:Nat) (bs:List Value) (s:ByteArray) (w:World) (h:Lib.IsBuilderF 131 5 B b bs w) (hlen : bs.length+s.size ≤ 140737488355328) (hBw:B ≤ w.heap.size) :
  Calls Tryz.prog 102 #[.pointer (some ⟨b,0,none⟩),.string s] w fun e w'=>e=.returned (.tuple #[.int .i64 s.size,.nilIface])∧Lib.IsBuilderF 131 5 B b (bs++Lib.strCells s) w'∧Below B w w':=by
 refine (Any.Builder_WriteString_k { Tryz.lays156 with } Tryz.Builder_Extra_156 B b bs s w h hlen hBw).mono ?_
 rintro e w' ⟨rfl,h1,h2,_⟩
 exact ⟨rfl,.inr h1,h2⟩
def TxPost (w:World) (s:ByteArray) (e:Ending) (w':World):Prop:=e=.returned (.string s)∧Below w.heap.size w w'
theorem text_bad {own:Bool} (hN:Cok Tryz.prog ⟨100,[.g [.int .i64,.sl .ro 77 eK3]],[.o .b],own,fun x=>m_impl_NetValid x.1 x.2⟩) {w:World} (hbs:Bs w) {b:Int} {ls:List (Int×Int×Int)} {A:Option Addr} {c:Nat} (R:Rc w 3 A ls.length c (ls.flatMap eK3.enc)) (hp : m_impl_NetValid b ls=some false):Calls Tryz.prog 42 #[.agg #[.int .i64 b,.slice A ls.length c]] w (TxPost w (bs8 [])):=by
 have b0:Below w.heap.size w (w.alloc (.cells #[.int .i64 b,.slice A ls.length c] 25)):=(Below.refl _ _).alloc (Nat.le_refl _) _
 have hS:(bs8 []:ByteArray)={ data:=#[] }:=rfl
 rw [hS]
 go_enter Tryz.func42,Tryz.ntmps42
 go_wp2_with fail
 refine (nv_calls hN hbs R hp b0).mono ?_
 rintro e w1 ⟨rfl,h1⟩
 have b1:=below_after' h1 b0
 go_wp2
 exact bodyPost_ret (v:=.string { data:=#[] }) (by simp [results,Tryz.results42,go_sem,*]) rfl ⟨rfl,(by repeat' (first | exact Below.refl _ _ | assumption | refine Below.drew ?_ | refine cell_drew ?_ | refine Below.setCell ?_ (by (try simp); (try omega)) _ | refine Below.alloc ?_ (by (try simp); (try omega)) _ | refine below_step (by assumption) (by (try simp); (try omega)) ?_))⟩
def lnT (x:Int×Int×Int):List UInt8:=32 :: (Lib.itoa x.1++45 :: (Lib.itoa x.2.1++58 :: Lib.itoa x.2.2))
def accT (b:Int) (ls:List (Int×Int×Int)) (k:Nat):List UInt8:=Lib.itoa b++(ls.take k).flatMap lnT
theorem acc_zero (b:Int) (ls:List (Int×Int×Int)) : accT b ls 0=Lib.itoa b:=by simp [accT]
theorem acc_succ (b:Int) (ls:List (Int×Int×Int)) {k:Nat} (h : k < ls.length) : accT b ls (k+1)=accT b ls k++lnT ls[k]:=by
 unfold accT
 rw [List.take_succ_eq_append_getElem h,List.flatMap_append]; simp
theorem acc_all (b:Int) (ls:List (Int×Int×Int)) : accT b ls ls.length=netT b ls:=by
 unfold accT; rw [List.take_length]; rfl
def N64 (n:Int):Prop:=-9223372036854775808 ≤ n∧n ≤ 9223372036854775807
theorem itoa_le {n:Int} (h:N64 n):(Lib.itoa n).length ≤ 21:=Lib.itoa_length_le n h.1 h.2
theorem lnT_le {x:Int×Int×Int} (h:(N64 x.1∧N64 x.2.1)∧N64 x.2.2):(lnT x).length ≤ 66:=by
 have h1:=itoa_le h.1.1; have h2:=itoa_le h.1.2; have h3:=itoa_le h.2
 unfold lnT; simp; omega
theorem acc_le {b:Int} {ls:List (Int×Int×Int)} (h1:N64 b) (h3 : ∀ x ∈ ls,(N64 x.1∧N64 x.2.1)∧N64 x.2.2) : ∀ k,k ≤ ls.length → (accT b ls k).length ≤ 21+66 * k
 | 0,_=>by rw [acc_zero]; exact itoa_le h1
 | k+1,hk=>by
  have:=acc_le h1 h3 k (by omega)
  have:=lnT_le (h3 ls[k] (List.getElem_mem _))
  rw [acc_succ b ls (by omega),List.length_append]; omega
def fsT (g:Nat) (xa xb xm:Int):Nat → Value → World → Prop
 | 0,v,_=>v=.pointer (some ⟨g,0,none⟩)
 | 1,v,_=>v=.int .i64 xa
 | 2,v,_=>v=.string (bs8 (Lib.itoa xa))
 | 3,v,_=>v=.string (bs8 ([32]++Lib.itoa xa))
 | 4,v,_=>v=.string (bs8 ([32]++Lib.itoa xa++[45]))
 | 5,v,_=>v=.pointer (some ⟨g,1,none⟩)
 | 6,v,_=>v=.int .i64 xb
 | 7,v,_=>v=.string (bs8 (Lib.itoa xb))
 | 8,v,_=>v=.string (bs8 ([32]++Lib.itoa xa++[45]++Lib.itoa xb))
 | 9,v,_=>v=.string (bs8 ([32]++Lib.itoa xa++[45]++Lib.itoa xb++[58]))
 | 10,v,_=>v=.pointer (some ⟨g,2,none⟩)
 | 11,v,_=>v=.int .i64 xm
 | 12,v,_=>v=.string (bs8 (Lib.itoa xm))
 | 13,v,_=>v=.string (bs8 ([32]++Lib.itoa xa++[45]++Lib.itoa xb++[58]++Lib.itoa xm))
 | _,_,_=>True
def depT (j:Nat):Nat:=if j < 15 then 20+j else 0
def upT:Nat → Nat
 | 0=>1 | 1=>2 | 2=>3 | 3=>4 | 4=>8 | 5=>6 | 6=>7 | 7=>8 | 8=>9 | 9=>13 | 10=>11 | 11=>12 | 12=>13 | 13=>14 | _=>0
theorem lnT_eq (xa xb xm:Int) : [32]++Lib.itoa xa++[45]++Lib.itoa xb++[58]++Lib.itoa xm=lnT (xa,xb,xm):=by simp [lnT]
theorem fs_stab (g:Nat) (xa xb xm:Int) (j:Nat) (a:Act) (w w':World) (h:Fact depT (fsT g xa xb xm) j a w):Fact depT (fsT g xa xb xm) j a w':=by
 unfold Fact at h ⊢
 match j with
 | 0 | 1 | 2 | 3 | 4 | 5 | 6 | 7 | 8 | 9 | 10 | 11 | 12 | 13=>exact h
 | n+14=>trivial
theorem ev_tmp {a:Act} {k:Nat} {v:Value} (h : a.tmps[k]?.getD undef=v) : a.eval (.tmp k)=v:=by rw [← h]; simp [Act.eval]
theorem addS {P:Program} {a:Act} {w:World} {o:Oper} {T U:TypeId} {x y:Operand} {p q:List UInt8} (ho : o.op=.binOp .add T x y U) (hx : a.eval x=.string (bs8 p)) (hy : a.eval y=.string (bs8 q)) (h : p.length ≤ 100∧q.length ≤ 100):(execOp a.eval o).run P w=.ok (.value (.string (bs8 (p++q)))) w:=by
 have:=run_addS (P:=P) (w:=w) ho hx hy (by rw [bs8_size,bs8_size]; omega)
 rwa [bs8_app] at this
set_option maxRecDepth 20000 in
set_option maxHeartbeats 2000000 in
theorem text_ok {own:Bool} (hN:Cok Tryz.prog ⟨100,[.g [.int .i64,.sl .ro 77 eK3]],[.o .b],own,fun x=>m_impl_NetValid x.1 x.2⟩) {w:World} (hbs:Bs w) {b:Int} {ls:List (Int×Int×Int)} {A:Option Addr} {c:Nat} (R:Rc w 3 A ls.length c (ls.flatMap eK3.enc)) (hp : m_impl_NetValid b ls=some true) (hb : netB b ls=true):Calls Tryz.prog 42 #[.agg #[.int .i64 b,.slice A ls.length c]] w (TxPost w (bs8 (netT b ls))):=by
 have b0:Below w.heap.size w (w.alloc (.cells #[.int .i64 b,.slice A ls.length c] 25)):=(Below.refl _ _).alloc (Nat.le_refl _) _
 have B0:Bk (w.alloc (.cells #[.int .i64 b,.slice A ls.length c] 25)) w.heap.size 25 #[.int .i64 b,.slice A ls.length c]:=Bk.new _ _ _
 unfold netB n64 at hb
 simp only [Bool.and_eq_true,decide_eq_true_eq,List.all_eq_true] at hb
 obtain ⟨⟨hb1,hb2⟩,hb3⟩:=hb
 go_enter Tryz.func42,Tryz.ntmps42
 go_wp2_with fail
 refine (nv_calls hN hbs R hp b0).mono ?_
 rintro e w1 ⟨rfl,h1⟩
 have b1:=below_after' h1 b0
 have B1:=B0.after h1
 have s1:=b1.size
 have f1:=(B1.alloc (.cells #[.pointer none,.slice none 0 0] 131)).c2
 go_wp2_with fail
 refine (itoa_calls hbs hb1 (b1.alloc s1 _)).mono ?_
 rintro e w2 ⟨rfl,h2⟩
 have F2:Lib.IsBuilderF 131 5 w1.heap.size w1.heap.size [] w2:=bld_after (Lib.IsBuilderF.of (Lib.fresh_isBuilder _ _ w1)) h2
 have z2:=h2.size
 simp at z2
 have b2:=below_after' h2 (b1.alloc s1 _)
 have l0:=itoa_le hb1
 have B2:=(B1.alloc (.cells #[.pointer none,.slice none 0 0] 131)).after h2
 go_wp2_with fail
 refine (write_calls w1.heap.size w1.heap.size [] _ w2 F2 (by rw [bs8_size]; simp; omega) (by omega)).mono ?_
 rintro e w3 ⟨rfl,F3,h3⟩
 have b3:Below w.heap.size w w3:=b2.trans (h3.mono s1)
 have z3:=h3.size
 have zl : w.heap.size < w1.heap.size:=by have:=h1.size; simp at this; omega
 have B3:=B2.below h3 zl
 have e3:([]:List Value)++Lib.strCells (bs8 (Lib.itoa b))=Lib.byteCells (accT b ls 0):=by rw [acc_zero,List.nil_append,Lib.strCells_eq,bs8_data]
 rw [e3] at F3
 have HF:=Lib.hid F3
 have HB:=Lib.hid (Below.refl w1.heap.size w3)
 have f3:=B3.c2
 clear F3 f1 B1 B2 F2 b2 h3 h2 b1 h1
 go_wp2
 go_loopw [16] (fun i wr=>∃ k:Nat,k ≤ ls.length∧i=.int .i64 k∧Hid (Lib.IsBuilderF 131 5 w1.heap.size w1.heap.size (Lib.byteCells (accT b ls k)) wr)∧Hid (Below w1.heap.size w3 wr)) (fun i _=>ls.length - (intOf i).toNat)
 case atStart=>exact ⟨0,Nat.zero_le _,rfl,HF,HB⟩
 case round =>
  obtain ⟨k,hk,rfl,HF,HB⟩:=hrel
  have sr:=HB.out.size
  by_cases hlt : k < ls.length
  ·obtain ⟨bk,off,rfl,hcell⟩:=R.rd.2 (by omega)
   have hx3:=hb3 ls[k] (List.getElem_mem _)
   have hkk : ls.getD k (0,0,0)=ls[k]:=by simp [hlt]
   have hc0:=hcell (k * 3+0) (.int .i64 ls[k].1) (flat_get (f:=eK3.enc) (fun _=>rfl) (0,0,0) hlt (by rw [hkk]; rfl))
   have hc1:=hcell (k * 3+1) (.int .i64 ls[k].2.1) (flat_get (f:=eK3.enc) (fun _=>rfl) (0,0,0) hlt (by rw [hkk]; rfl))
   have hc2:=hcell (k * 3+2) (.int .i64 ls[k].2.2) (flat_get (f:=eK3.enc) (fun _=>rfl) (0,0,0) hlt (by rw [hkk]; rfl))
   have hbk : bk < w.heap.size:=by
    rcases Nat.lt_or_ge bk w.heap.size with h | h
    ·exact h
    ·simp [World.cell?,Array.getElem?_eq_none h] at hc0
   have hac:=acc_succ b ls hlt
   have hal:=acc_le hb1 hb3 k hk
   have HA:=Lib.hid hac
   clear hac hcell hkk
   generalize ls[k]=x at *
   obtain ⟨xa,xb,xm⟩:=x
   have br:Below w.heap.size w wr:=b3.trans (HB.out.mono s1)
   have g0 : wr.cell? ⟨bk,off+k * 3,none⟩=some (.int .i64 xa):=(br.cell (p:=⟨bk,off+(k * 3+0),none⟩) hbk).trans hc0
   have g1 : wr.cell? ⟨bk,off+k * 3+1,none⟩=some (.int .i64 xb):=(br.cell (p:=⟨bk,off+(k * 3+1),none⟩) hbk).trans hc1
   have g2 : wr.cell? ⟨bk,off+k * 3+2,none⟩=some (.int .i64 xm):=(br.cell (p:=⟨bk,off+(k * 3+2),none⟩) hbk).trans hc2
   clear hc0 hc1 hc2
   have BL:Bk (wr.alloc (.cells #[.int .i64 xa,.int .i64 xb,.int .i64 xm] 77)) wr.heap.size 77 #[.int .i64 xa,.int .i64 xb,.int .i64 xm]:=Bk.new _ _ _
   have FL:=HF.out.alloc (.cells #[.int .i64 xa,.int .i64 xb,.int .i64 xm] 77)
   have bL:=br.alloc (by omega) (.cells #[.int .i64 xa,.int .i64 xb,.int .i64 xm] 77)
   have HL:=HB.out.alloc (by omega) (.cells #[.int .i64 xa,.int .i64 xb,.int .i64 xm] 77)
   obtain ⟨⟨hxa,hxb⟩,hxm⟩:=hx3
   have la:=itoa_le hxa; have lb:=itoa_le hxb; have lm:=itoa_le hxm
   go_wp2
   refine region_last2 (up:=upT) (L:=14) (D:=[20,21,22,23,24,25,26,27,28,29,30,31,32,33,34]) (dep:=depT) (R:=fun w w'=>Below w.heap.size w w') (Inv:=fun wx=>Below (wr.alloc (.cells #[.int .i64 xa,.int .i64 xb,.int .i64 xm] 77)).heap.size (wr.alloc (.cells #[.int .i64 xa,.int .i64 xb,.int .i64 xm] 77)) wx) (Fs:=fsT wr.heap.size xa xb xm) mixed rfl rfl (by kernel_rfl) (by kernel_rfl) (fun j a w w' _ h=>fs_stab _ _ _ _ j a w w' h) (Below.refl _ _).drew ?_ ?_
   ·refine ⟨?_,?_,?_,?_,?_,?_,?_,?_,?_,?_,?_,?_,?_,?_,trivial⟩ <;> rintro a wx ⟨hs,hd,hB⟩ I hp
    ·have e1 : a.tmps[5]?.getD undef=.pointer (some ⟨wr.heap.size,0,none⟩):=hB 5 rfl
     exact .inl ⟨rfl,_,wx,by simp [go_sem,e1],I,rfl,.inl rfl⟩
    ·have e1 : a.tmps[20]?.getD undef=_:=hp 0 rfl
     have f:=(BL.after I).c3
     exact .inl ⟨rfl,_,wx,by simp [go_sem,e1,f],I,rfl,.inl rfl⟩
    ·have e1 : a.tmps[21]?.getD undef=_:=hp 1 rfl
     refine .inr (.inr (.inl ⟨rfl,_,_,by simp [go_sem,e1]; exact ⟨rfl,rfl⟩,?_⟩))
     refine (itoa_calls hbs hxa (below_after' I bL)).mono ?_
     rintro e w5 ⟨rfl,h5⟩
     exact ⟨_,rfl,below_after' h5 I,rfl,.inr ⟨h5,rfl⟩⟩
    ·have e1 : a.eval (.const (.string { data:=#[32] }))=.string (bs8 [32]):=rfl
     have e2 : a.tmps[22]?.getD undef=_:=hp 2 rfl
     exact .inl ⟨rfl,_,wx,addS rfl e1 (ev_tmp e2) (by simp; omega),I,rfl,.inl rfl⟩
    ·have e1 : a.tmps[23]?.getD undef=_:=hp 3 rfl
     have e2 : a.eval (.const (.string { data:=#[45] }))=.string (bs8 [45]):=rfl
     exact .inl ⟨rfl,_,wx,addS rfl (ev_tmp e1) e2 (by simp; omega),I,rfl,.inl rfl⟩
    ·have e1 : a.tmps[5]?.getD undef=.pointer (some ⟨wr.heap.size,0,none⟩):=hB 5 rfl
     exact .inl ⟨rfl,_,wx,by simp [go_sem,e1],I,rfl,.inl rfl⟩
    ·have e1 : a.tmps[25]?.getD undef=_:=hp 5 rfl
     have f:=(BL.after I).c3
     exact .inl ⟨rfl,_,wx,by simp [go_sem,e1,f],I,rfl,.inl rfl⟩
    ·have e1 : a.tmps[26]?.getD undef=_:=hp 6 rfl
     refine .inr (.inr (.inl ⟨rfl,_,_,by simp [go_sem,e1]; exact ⟨rfl,rfl⟩,?_⟩))
     refine (itoa_calls hbs hxb (below_after' I bL)).mono ?_
     rintro e w5 ⟨rfl,h5⟩
     exact ⟨_,rfl,below_after' h5 I,rfl,.inr ⟨h5,rfl⟩⟩
    ·have e1 : a.tmps[24]?.getD undef=_:=hp 4 rfl
     have e2 : a.tmps[27]?.getD undef=_:=hp 7 rfl
     exact .inl ⟨rfl,_,wx,addS rfl (ev_tmp e1) (ev_tmp e2) (by simp; omega),I,rfl,.inl rfl⟩
    ·have e1 : a.tmps[28]?.getD undef=_:=hp 8 rfl
     have e2 : a.eval (.const (.string { data:=#[58] }))=.string (bs8 [58]):=rfl
     exact .inl ⟨rfl,_,wx,addS rfl (ev_tmp e1) e2 (by simp; omega),I,rfl,.inl rfl⟩
    ·have e1 : a.tmps[5]?.getD undef=.pointer (some ⟨wr.heap.size,0,none⟩):=hB 5 rfl
     exact .inl ⟨rfl,_,wx,by simp [go_sem,e1],I,rfl,.inl rfl⟩
    ·have e1 : a.tmps[30]?.getD undef=_:=hp 10 rfl
     have f:=(BL.after I).c3
     exact .inl ⟨rfl,_,wx,by simp [go_sem,e1,f],I,rfl,.inl rfl⟩
    ·have e1 : a.tmps[31]?.getD undef=_:=hp 11 rfl
     refine .inr (.inr (.inl ⟨rfl,_,_,by simp [go_sem,e1]; exact ⟨rfl,rfl⟩,?_⟩))
     refine (itoa_calls hbs hxm (below_after' I bL)).mono ?_
     rintro e w5 ⟨rfl,h5⟩
     exact ⟨_,rfl,below_after' h5 I,rfl,.inr ⟨h5,rfl⟩⟩
    ·have e1 : a.tmps[29]?.getD undef=_:=hp 9 rfl
     have e2 : a.tmps[32]?.getD undef=_:=hp 12 rfl
     exact .inl ⟨rfl,_,wx,addS rfl (ev_tmp e1) (ev_tmp e2) (by simp; omega),I,rfl,.inl rfl⟩
   ·intro a wx hB I hF
    have e13 : a.tmps[33]?.getD undef=.string (bs8 (lnT (xa,xb,xm))):=by rw [← lnT_eq]; exact hF 13 (by decide)
    have e3 : a.tmps[3]?.getD undef=.pointer (some ⟨w1.heap.size,0,none⟩):=hB.2.2 3 rfl
    refine ⟨rfl,_,_,by simp [go_sem,e13,e3]; exact ⟨rfl,rfl⟩,?_⟩
    have hl3:=lnT_le (x:=(xa,xb,xm)) ⟨⟨hxa,hxb⟩,hxm⟩
    refine (write_calls w1.heap.size w1.heap.size _ _ wx (bld_after FL I) (by rw [Lib.byteCells_length,bs8_size]; omega) (by have:=I.size; simp at this; omega)).mono ?_
    rintro e w6 ⟨rfl,F6,h6⟩
    refine ⟨_,rfl,?_⟩
    have b6:=(below_after' I HL (by omega)).trans h6
    rw [Lib.strCells_eq,bs8_data,← Lib.byteCells_append,← HA.out] at F6
    have HF6:=Lib.hid F6
    have HB6:=Lib.hid b6
    rw [base_eq hB]
    simp only [List.foldl]
    generalize sl a 20=v20
    generalize sl a 21=v21
    generalize sl a 22=v22
    generalize sl a 23=v23
    generalize sl a 24=v24
    generalize sl a 25=v25
    generalize sl a 26=v26
    generalize sl a 27=v27
    generalize sl a 28=v28
    generalize sl a 29=v29
    generalize sl a 30=v30
    generalize sl a 31=v31
    generalize sl a 32=v32
    generalize sl a 33=v33
    generalize sl a 34=v34
    clear hB hF e13 e3 F6 b6 h6 I BL FL bL HL g0 g1 g2 br HF HB
    go_simp
    go_wp2
    go_roundw
    case rel=>exact ⟨k+1,hlt,by go_num,HF6,HB6⟩
    case measure=>simp [intOf]; omega
  ·obtain rfl : k=ls.length:=by omega
   have HF':=HF.out
   rw [acc_all] at HF'
   have b4:Below w.heap.size w wr:=b3.trans (HB.out.mono s1)
   have zw : w1.heap.size ≤ wr.heap.size:=by have:=HB.out.size; omega
   go_wp2_with fail
   refine (Tryz.Builder_String_any_k w1.heap.size w1.heap.size _ wr HF' zw).mono ?_
   rintro e w7 ⟨rfl,_,h7,_⟩
   have b7:=b4.trans (h7.mono s1)
   clear h7 HF' HF HB
   go_wp2
   exact bodyPost_ret (v:=.string (bs8 (netT b ls))) (by simp [results,Tryz.results42,go_sem,*]; rfl) rfl ⟨rfl,b7⟩
theorem hd_NetText {own:Bool} (co:CallOk Tryz.prog 42) (hN:Cok Tryz.prog ⟨100,[.g [.int .i64,.sl .ro 77 eK3]],[.o .b],own,fun x=>m_impl_NetValid x.1 x.2⟩):Cok Tryz.prog ⟨42,[.g [.int .i64,.sl .ro 77 eK3]],[.o .s],false,fun x=>m_impl_NetText x.1 x.2⟩:=⟨co,fun x res hm e w0 w X hbs hp hS=>by
 obtain ⟨b,ls⟩:=x
 have hm : m_impl_NetText b ls=some res:=hm
 obtain ⟨v0,r0,q0,l0,p1⟩:=hp
 obtain ⟨v1,r1,q1,l1,p2⟩:=p1
 replace q1:=(List.tail_eq_of_cons_eq q0).trans q1
 obtain ⟨z1,m1,hro1⟩:=l1
 replace m1:=(List.head_eq_of_cons_eq q1).trans m1
 injection m1 with _ m1
 subst m1
 have R:Rc w 3 (e.a 1) ls.length (e.c 1) (ls.flatMap eK3.enc):=hro1 w _ hS (fun y hy=>List.mem_append_right _ hy)
 have hbs1:=bs_after hbs hS.below
 have key:Calls Tryz.prog 42 #[.agg #[.int .i64 b,.slice (e.a 1) ls.length (e.c 1)]] w (TxPost w res):=by
  unfold m_impl_NetText at hm
  obtain ⟨p,hp,hm⟩:=bind_ex hm
  cases p with
  | false =>
   injection hm with hm
   subst hm
   exact text_bad hN hbs1 R hp
  | true =>
   obtain ⟨hb,hm⟩:=chk_ex hm
   injection hm with hm
   subst hm
   exact text_ok hN hbs1 R hp hb
 refine Calls.mono key ?_
 rintro en w' ⟨rfl,hb⟩
 exact ⟨[_],[],rfl,⟨[_],[],[],[],[],[],rfl,rfl,⟨_,[],_,[],[],[],rfl,rfl,rfl,⟨_,rfl,rfl,rfl⟩,rfl,rfl,rfl⟩,⟨rfl,rfl⟩,⟨[],[],[],[],rfl,rfl,⟨rfl,rfl⟩,⟨rfl,rfl⟩⟩⟩,hS.quiet hb⟩⟩
end Go.Proofs.YtjdlgannencchaaGreatDoor
namespace Go.Proofs.YtjdlgannencchaaGreatDoor
open Go.ChangeShapes Go.WideShapes Go.ChangeAt Go.RowKit
set_option linter.unusedVariables false
set_option linter.unusedSimpArgs false
theorem bd117_0 {x0:Value} {w:World} (h0 : x0.cells=#[x0]):(Instr.build 117 [(0,x0)].toArray).run Tryz.prog w=.ok (.agg #[x0,.int .i64 0]) w:=by unfold Value.cells at h0; simp [go_sem,h0]
theorem co10:CallOk Tryz.prog 10:=⟨by kernel_rfl⟩
theorem co100:CallOk Tryz.prog 100:=⟨by kernel_rfl⟩
theorem co101:CallOk Tryz.prog 101:=⟨by kernel_rfl⟩
theorem co103:CallOk Tryz.prog 103:=⟨by kernel_rfl⟩
theorem co105:CallOk Tryz.prog 105:=⟨by kernel_rfl⟩
theorem co106:CallOk Tryz.prog 106:=⟨by kernel_rfl⟩
theorem co107:CallOk Tryz.prog 107:=⟨by kernel_rfl⟩
theorem co108:CallOk Tryz.prog 108:=⟨by kernel_rfl⟩
theorem co109:CallOk Tryz.prog 109:=⟨by kernel_rfl⟩
theorem co11:CallOk Tryz.prog 11:=⟨by kernel_rfl⟩
theorem co110:CallOk Tryz.prog 110:=⟨by kernel_rfl⟩
theorem co111:CallOk Tryz.prog 111:=⟨by kernel_rfl⟩
theorem co112:CallOk Tryz.prog 112:=⟨by kernel_rfl⟩
theorem co113:CallOk Tryz.prog 113:=⟨by kernel_rfl⟩
theorem co114:CallOk Tryz.prog 114:=⟨by kernel_rfl⟩
theorem co115:CallOk Tryz.prog 115:=⟨by kernel_rfl⟩
theorem co116:CallOk Tryz.prog 116:=⟨by kernel_rfl⟩
theorem co118:CallOk Tryz.prog 118:=⟨by kernel_rfl⟩
theorem co119:CallOk Tryz.prog 119:=⟨by kernel_rfl⟩
theorem co12:CallOk Tryz.prog 12:=⟨by kernel_rfl⟩
theorem co120:CallOk Tryz.prog 120:=⟨by kernel_rfl⟩
theorem co121:CallOk Tryz.prog 121:=⟨by kernel_rfl⟩
theorem co122:CallOk Tryz.prog 122:=⟨by kernel_rfl⟩
theorem co123:CallOk Tryz.prog 123:=⟨by kernel_rfl⟩
theorem co124:CallOk Tryz.prog 124:=⟨by kernel_rfl⟩
theorem co125:CallOk Tryz.prog 125:=⟨by kernel_rfl⟩
theorem co13:CallOk Tryz.prog 13:=⟨by kernel_rfl⟩
theorem co130:CallOk Tryz.prog 130:=⟨by kernel_rfl⟩
theorem co136:CallOk Tryz.prog 136:=⟨by kernel_rfl⟩
theorem co137:CallOk Tryz.prog 137:=⟨by kernel_rfl⟩
theorem co138:CallOk Tryz.prog 138:=⟨by kernel_rfl⟩
theorem co139:CallOk Tryz.prog 139:=⟨by kernel_rfl⟩
theorem co14:CallOk Tryz.prog 14:=⟨by kernel_rfl⟩
theorem co140:CallOk Tryz.prog 140:=⟨by kernel_rfl⟩
theorem co143:CallOk Tryz.prog 143:=⟨by kernel_rfl⟩
theorem co144:CallOk Tryz.prog 144:=⟨by kernel_rfl⟩
theorem co16:CallOk Tryz.prog 16:=⟨by kernel_rfl⟩
theorem co162:CallOk Tryz.prog 162:=⟨by kernel_rfl⟩
theorem co163:CallOk Tryz.prog 163:=⟨by kernel_rfl⟩
theorem co164:CallOk Tryz.prog 164:=⟨by kernel_rfl⟩
theorem co165:CallOk Tryz.prog 165:=⟨by kernel_rfl⟩
theorem co168:CallOk Tryz.prog 168:=⟨by kernel_rfl⟩
theorem co169:CallOk Tryz.prog 169:=⟨by kernel_rfl⟩
theorem co170:CallOk Tryz.prog 170:=⟨by kernel_rfl⟩
theorem co171:CallOk Tryz.prog 171:=⟨by kernel_rfl⟩
theorem co172:CallOk Tryz.prog 172:=⟨by kernel_rfl⟩
theorem co173:CallOk Tryz.prog 173:=⟨by kernel_rfl⟩
theorem co174:CallOk Tryz.prog 174:=⟨by kernel_rfl⟩
theorem co175:CallOk Tryz.prog 175:=⟨by kernel_rfl⟩
theorem co179:CallOk Tryz.prog 179:=⟨by kernel_rfl⟩
theorem co180:CallOk Tryz.prog 180:=⟨by kernel_rfl⟩
theorem co181:CallOk Tryz.prog 181:=⟨by kernel_rfl⟩
theorem co182:CallOk Tryz.prog 182:=⟨by kernel_rfl⟩
theorem co183:CallOk Tryz.prog 183:=⟨by kernel_rfl⟩
theorem co185:CallOk Tryz.prog 185:=⟨by kernel_rfl⟩
theorem co186:CallOk Tryz.prog 186:=⟨by kernel_rfl⟩
theorem co19:CallOk Tryz.prog 19:=⟨by kernel_rfl⟩
theorem co190:CallOk Tryz.prog 190:=⟨by kernel_rfl⟩
theorem co194:CallOk Tryz.prog 194:=⟨by kernel_rfl⟩
theorem co195:CallOk Tryz.prog 195:=⟨by kernel_rfl⟩
theorem co200:CallOk Tryz.prog 200:=⟨by kernel_rfl⟩
theorem co201:CallOk Tryz.prog 201:=⟨by kernel_rfl⟩
theorem co204:CallOk Tryz.prog 204:=⟨by kernel_rfl⟩
theorem co205:CallOk Tryz.prog 205:=⟨by kernel_rfl⟩
theorem co206:CallOk Tryz.prog 206:=⟨by kernel_rfl⟩
theorem co207:CallOk Tryz.prog 207:=⟨by kernel_rfl⟩
theorem co212:CallOk Tryz.prog 212:=⟨by kernel_rfl⟩
theorem co213:CallOk Tryz.prog 213:=⟨by kernel_rfl⟩
theorem co216:CallOk Tryz.prog 216:=⟨by kernel_rfl⟩
theorem co217:CallOk Tryz.prog 217:=⟨by kernel_rfl⟩
theorem co219:CallOk Tryz.prog 219:=⟨by kernel_rfl⟩
theorem co232:CallOk Tryz.prog 232:=⟨by kernel_rfl⟩
theorem co234:CallOk Tryz.prog 234:=⟨by kernel_rfl⟩
theorem co33:CallOk Tryz.prog 33:=⟨by kernel_rfl⟩
theorem co34:CallOk Tryz.prog 34:=⟨by kernel_rfl⟩
theorem co35:CallOk Tryz.prog 35:=⟨by kernel_rfl⟩
theorem co36:CallOk Tryz.prog 36:=⟨by kernel_rfl⟩
theorem co37:CallOk Tryz.prog 37:=⟨by kernel_rfl⟩
theorem co38:CallOk Tryz.prog 38:=⟨by kernel_rfl⟩
theorem co39:CallOk Tryz.prog 39:=⟨by kernel_rfl⟩
theorem co40:CallOk Tryz.prog 40:=⟨by kernel_rfl⟩
theorem co41:CallOk Tryz.prog 41:=⟨by kernel_rfl⟩
theorem co42:CallOk Tryz.prog 42:=⟨by kernel_rfl⟩
theorem co43:CallOk Tryz.prog 43:=⟨by kernel_rfl⟩
theorem co44:CallOk Tryz.prog 44:=⟨by kernel_rfl⟩
theorem co45:CallOk Tryz.prog 45:=⟨by kernel_rfl⟩
theorem co46:CallOk Tryz.prog 46:=⟨by kernel_rfl⟩
theorem co47:CallOk Tryz.prog 47:=⟨by kernel_rfl⟩
theorem co48:CallOk Tryz.prog 48:=⟨by kernel_rfl⟩
theorem co49:CallOk Tryz.prog 49:=⟨by kernel_rfl⟩
theorem co50:CallOk Tryz.prog 50:=⟨by kernel_rfl⟩
theorem co51:CallOk Tryz.prog 51:=⟨by kernel_rfl⟩
theorem co52:CallOk Tryz.prog 52:=⟨by kernel_rfl⟩
theorem co53:CallOk Tryz.prog 53:=⟨by kernel_rfl⟩
theorem co54:CallOk Tryz.prog 54:=⟨by kernel_rfl⟩
theorem co55:CallOk Tryz.prog 55:=⟨by kernel_rfl⟩
theorem co61:CallOk Tryz.prog 61:=⟨by kernel_rfl⟩
theorem co62:CallOk Tryz.prog 62:=⟨by kernel_rfl⟩
theorem co64:CallOk Tryz.prog 64:=⟨by kernel_rfl⟩
theorem co69:CallOk Tryz.prog 69:=⟨by kernel_rfl⟩
theorem co70:CallOk Tryz.prog 70:=⟨by kernel_rfl⟩
theorem co71:CallOk Tryz.prog 71:=⟨by kernel_rfl⟩
theorem co8:CallOk Tryz.prog 8:=⟨by kernel_rfl⟩
theorem co9:CallOk Tryz.prog 9:=⟨by kernel_rfl⟩
theorem co93:CallOk Tryz.prog 93:=⟨by kernel_rfl⟩
theorem co94:CallOk Tryz.prog 94:=⟨by kernel_rfl⟩
theorem co95:CallOk Tryz.prog 95:=⟨by kernel_rfl⟩
theorem co96:CallOk Tryz.prog 96:=⟨by kernel_rfl⟩
theorem co97:CallOk Tryz.prog 97:=⟨by kernel_rfl⟩
theorem co98:CallOk Tryz.prog 98:=⟨by kernel_rfl⟩
theorem co99:CallOk Tryz.prog 99:=⟨by kernel_rfl⟩
theorem inf122:(Tryz.prog.info? 122).map (fun i=>(i.zero,i.size,i.bytes))=some (some (.agg #[.int .i64 0,.int .i64 0]),2,16):=by kernel_rfl
theorem inf125:(Tryz.prog.info? 125).map (fun i=>(i.zero,i.size,i.bytes))=some (some (.agg #[.int .i64 0,.int .i64 0]),2,16):=by kernel_rfl
theorem inf3:(Tryz.prog.info? 3).map (fun i=>(i.zero,i.size,i.bytes))=some (some (.int .i64 0),1,8):=by kernel_rfl
theorem inf4:(Tryz.prog.info? 4).map (fun i=>(i.zero,i.size,i.bytes))=some (some (.bool false),1,1):=by kernel_rfl
theorem inf77:(Tryz.prog.info? 77).map (fun i=>(i.zero,i.size,i.bytes))=some (some (.agg #[.int .i64 0,.int .i64 0,.int .i64 0]),3,24):=by kernel_rfl
theorem sz122:(Tryz.prog.info? 122).map (·.size)=some 2:=by kernel_rfl
theorem sz125:(Tryz.prog.info? 125).map (·.size)=some 2:=by kernel_rfl
theorem sz3:(Tryz.prog.info? 3).map (·.size)=some 1:=by kernel_rfl
theorem sz4:(Tryz.prog.info? 4).map (·.size)=some 1:=by kernel_rfl
theorem sz5:(Tryz.prog.info? 5).map (·.size)=some 1:=by kernel_rfl
theorem sz77:(Tryz.prog.info? 77).map (·.size)=some 3:=by kernel_rfl
theorem eg122:Tryz.prog.eqGuardType Tryz.prog.depth 122=false:=by kernel_rfl
theorem eq122 {a0 b0:Int} {a1 b1:Int} {w:World}:(Op.equalIn 10000 122 (.agg #[.int .i64 a0,.int .i64 a1]) (.agg #[.int .i64 b0,.int .i64 b1])).run Tryz.prog w=.ok ((a0 == b0) && (a1 == b1)) w:=by
 simp [go_sem]
 (repeat' split) <;> simp_all
theorem eg125:Tryz.prog.eqGuardType Tryz.prog.depth 125=false:=by kernel_rfl
theorem eq125 {a0 b0:Int} {a1 b1:Int} {w:World}:(Op.equalIn 10000 125 (.agg #[.int .i64 a0,.int .i64 a1]) (.agg #[.int .i64 b0,.int .i64 b1])).run Tryz.prog w=.ok ((a0 == b0) && (a1 == b1)) w:=by
 simp [go_sem]
 (repeat' split) <;> simp_all
theorem eg77:Tryz.prog.eqGuardType Tryz.prog.depth 77=false:=by kernel_rfl
theorem eq77 {a0 b0:Int} {a1 b1:Int} {a2 b2:Int} {w:World}:(Op.equalIn 10000 77 (.agg #[.int .i64 a0,.int .i64 a1,.int .i64 a2]) (.agg #[.int .i64 b0,.int .i64 b1,.int .i64 b2])).run Tryz.prog w=.ok ((a0 == b0) && (a1 == b1) && (a2 == b2)) w:=by
 simp [go_sem]
 (repeat' split) <;> simp_all
end Go.Proofs.YtjdlgannencchaaGreatDoor
