/- Texts of the claim, one behind the other: Da1, LnT, WkA, WkP, Isl, For, Flw, Wl, Net. -/
import Derived.Test.YtjdlgannencchaaGreatDoorRLinesHeal4
namespace Go.Proofs.YtjdlgannencchaaGreatDoor
open Go.ChangeShapes Go.WideShapes Go.ChangeAt Go.RowKit
set_option linter.unusedVariables false
set_option linter.unusedSimpArgs false
set_option maxRecDepth 100000
noncomputable section
def tys:List (Nat×TyI):=[(3,⟨.int .i64,1,8,[.int .i64 0],(.int .i64)⟩),(4,⟨.bo,1,1,[.bool false],.b⟩),(5,⟨.int .u8,1,1,[.int .u8 0],(.int .u8)⟩),(9,⟨.st,1,16,[.str ByteArray.empty],.s⟩),(22,⟨.sl 5,1,24,[.ns],.b⟩),(23,⟨.sl 77,1,24,[.ns],.b⟩),(25,⟨.ag [(0,1),(1,1)],2,32,[.int .i64 0,.ns],.b⟩),(26,⟨.sl 122,1,24,[.ns],.b⟩),(27,⟨.sl 4,1,24,[.ns],.b⟩),(28,⟨.sl 125,1,24,[.ns],.b⟩),(30,⟨.ag [(0,1),(1,1),(2,1)],3,72,[.ns,.ns,.ns],.b⟩),(31,⟨.sl 3,1,24,[.ns],.b⟩),(33,⟨.ag [(0,2),(2,1),(3,3),(6,1)],7,152,[.int .i64 0,.ns,.ns,.ns,.ns,.ns,.ns],.b⟩),(34,⟨.sl 9,1,24,[.ns],.b⟩),(49,⟨.sl 210,1,24,[.ns],.b⟩),(51,⟨.ag [(0,1),(1,1)],2,32,[.int .i64 0,.ns],.b⟩),(52,⟨.sl 185,1,24,[.ns],.b⟩),(53,⟨.sl 212,1,24,[.ns],.b⟩),(55,⟨.ag [(0,1),(1,1),(2,1)],3,72,[.ns,.ns,.ns],.b⟩),(57,⟨.ag [(0,2),(2,1),(3,3),(6,1)],7,152,[.int .i64 0,.ns,.ns,.ns,.ns,.ns,.ns],.b⟩),(65,⟨.ot,1,8,[.np],.b⟩),(77,⟨.ag [(0,1),(1,1),(2,1)],3,24,[.int .i64 0,.int .i64 0,.int .i64 0],(.p (.int .i64) (.p (.int .i64) (.int .i64)))⟩),(82,⟨.sl 86,1,24,[.ns],.b⟩),(86,⟨.ag [(0,1),(1,1),(2,1)],3,24,[.int .i64 0,.int .i64 0,.int .i64 0],(.p (.int .i64) (.p (.int .i64) (.int .i64)))⟩),(117,⟨.ag [(0,1),(1,1)],2,32,[.ns,.int .i64 0],.b⟩),(122,⟨.ag [(0,1),(1,1)],2,16,[.int .i64 0,.int .i64 0],(.p (.int .i64) (.int .i64))⟩),(125,⟨.ag [(0,1),(1,1)],2,16,[.int .i64 0,.int .i64 0],(.p (.int .i64) (.int .i64))⟩),(140,⟨.ar 8 3,8,64,[.int .i64 0,.int .i64 0,.int .i64 0,.int .i64 0,.int .i64 0,.int .i64 0,.int .i64 0,.int .i64 0],.b⟩),(142,⟨.ag [(0,8),(8,8)],16,128,[.int .i64 0,.int .i64 0,.int .i64 0,.int .i64 0,.int .i64 0,.int .i64 0,.int .i64 0,.int .i64 0,.int .i64 0,.int .i64 0,.int .i64 0,.int .i64 0,.int .i64 0,.int .i64 0,.int .i64 0,.int .i64 0],(.p (.int .i64) (.p (.int .i64) (.p (.int .i64) (.p (.int .i64) (.p (.int .i64) (.p (.int .i64) (.p (.int .i64) (.p (.int .i64) (.p (.int .i64) (.p (.int .i64) (.p (.int .i64) (.p (.int .i64) (.p (.int .i64) (.p (.int .i64) (.p (.int .i64) (.int .i64))))))))))))))))⟩),(145,⟨.ag [(0,2),(2,1),(3,1),(4,1)],5,104,[.int .i64 0,.ns,.ns,.ns,.ns],.b⟩),(151,⟨.ar 3 3,3,24,[.int .i64 0,.int .i64 0,.int .i64 0],.b⟩),(153,⟨.sl 157,1,24,[.ns],.b⟩),(157,⟨.ag [(0,1),(1,1)],2,16,[.int .i64 0,.bool false],(.p (.int .i64) .b)⟩),(185,⟨.ag [(0,1),(1,1)],2,16,[.int .i64 0,.int .i64 0],(.p (.int .i64) (.int .i64))⟩),(195,⟨.sl 3,1,24,[.ns],.b⟩),(210,⟨.ag [(0,1),(1,1),(2,1)],3,24,[.int .i64 0,.int .i64 0,.int .i64 0],(.p (.int .i64) (.p (.int .i64) (.int .i64)))⟩),(212,⟨.ag [(0,1),(1,1)],2,16,[.int .i64 0,.int .i64 0],(.p (.int .i64) (.int .i64))⟩),(227,⟨.int .u64,1,8,[.int .u64 0],.b⟩)]
theorem tys_ok : tysOk Tryz.prog tys=true:=by kernel_rfl
def eqt:List (Nat×EK):=[(77,(.p (.int .i64) (.p (.int .i64) (.int .i64)))),(122,(.p (.int .i64) (.int .i64))),(125,(.p (.int .i64) (.int .i64)))]
theorem c_spec_l20Open {x0:List Int} {A0:Option Addr} {n0 c0:Nat} {w:World} (h0:Rt w 1 eU A0 n0 c0 x0) :
  Calls Tryz.prog 32 #[.slice A0 n0 c0] w (fun e w'=>∃ G0,e=.returned (.pointer (some ⟨G0,0,none⟩))∧St w w' [.box G0 117 #[.slice (opA c0 n0 A0) (x0.take 2000).length c0,.int .i64 0]]):=by
 obtain rfl:=h0.len
 refine calls_gw Tryz.func32 Tryz.ntmps32 rfl [(0,.slice A0 x0.length c0)] ⟨rfl,trivial⟩ rfl ?_
 intro a hF
 have S:=St.nil w
 refine wp_seq ?_
 refine wp_region_lit ?_
 refine op_val (v:=.pointer none) rfl rfl hF rfl (run_assign rfl rfl) ?_; clear hF; intro a hF
 refine wpList_nil ?_
 refine wp_seq ?_
 refine wp_seq ?_
 refine wp_region_lit ?_
 refine op_val (v:=.slice A0 x0.length c0) rfl rfl hF rfl (run_move rfl (hF.ev rfl)) ?_; clear hF; intro a hF
 refine op_val (v:=.int .i64 (x0.length:Int)) rfl rfl hF rfl (run_lenL rfl rfl Tryz.underlying22 (hF.ev rfl)) ?_; clear hF; intro a hF
 refine op_val (v:=.bool (ltB 2000 (x0.length:Int))) rfl rfl hF rfl (run_gtr (hF.ev rfl) rfl rfl) ?_; clear hF; intro a hF
 refine wpList_nil ?_
 cases hc101:(ltB 2000 (x0.length:Int))
 ·have hc101_:=hc101
  refine cond_f hF rfl hc101 ?_
  refine wp_skip ?_
  refine wp_seq ?_
  refine wp_region_lit ?_
  refine op_val (v:=.slice A0 x0.length c0) rfl rfl hF rfl (run_move rfl (hF.ev rfl)) ?_; clear hF; intro a hF
  refine op_val (v:=.agg #[.slice A0 x0.length c0,.int .i64 0]) rfl rfl hF rfl (run_build (vs:=[(0,.slice A0 x0.length c0)]) rfl ⟨⟨rfl,(hF.ev rfl)⟩,trivial⟩ (bd117_0 rfl)) ?_; clear hF; intro a hF
  refine op_new (cs:=#[.slice A0 x0.length c0,.int .i64 0]) rfl rfl hF rfl S (run_box rfl (hF.ev rfl) rfl) ?_; clear hF S; intro a g102 u hF S
  refine op_val (v:=.pointer (some ⟨g102,0,none⟩)) rfl rfl hF rfl (run_assign rfl (hF.ev rfl)) ?_; clear hF; intro a hF
  refine wpList_nil ?_
  refine wp_ret ?_
  repeat with_reducible (first | refine then_ret ?_ | refine in_ret ?_ | refine in_nrm ?_)
  refine ret1_gw (.inl rfl) hF rfl (res_tmp (hF.ev rfl)) ?_
  have q1:=ltB_f hc101
  rw [opA,if_neg (by omega),List.take_of_length_le (by omega)]
  exact ⟨g102,rfl,S.sel [0] rfl rfl⟩
 ·have hc101_:=hc101
  refine cond_t hF rfl hc101 ?_
  refine wp_region_lit ?_
  refine op_val (v:=.slice A0 x0.length c0) rfl rfl hF rfl (run_move rfl (hF.ev rfl)) ?_; clear hF; intro a hF
  have hk103:=slB_t (show slB 0 2000 x0.length=true by have:=ltB_t hc101; simp [slB]; omega)
  refine op_val (v:=.slice (subA c0 ((0:Int).toNat) 1 A0) ((subL x0 0 2000).length) (c0 - (0:Int).toNat)) rfl rfl hF rfl (run_sliceH (l:=x0) rfl Tryz.underlying22 sz5 (hF.ev rfl) rfl hk103 rfl (S.rc0 h0.rc).cap) ?_; clear hF; intro a hF
  refine op_val (v:=.slice (subA c0 ((0:Int).toNat) 1 A0) ((subL x0 0 2000).length) (c0 - (0:Int).toNat)) rfl rfl hF rfl (run_assign rfl (hF.ev rfl)) ?_; clear hF; intro a hF
  refine wpList_nil ?_
  refine wp_seq ?_
  refine wp_region_lit ?_
  refine op_val (v:=.slice (subA c0 ((0:Int).toNat) 1 A0) ((subL x0 0 2000).length) (c0 - (0:Int).toNat)) rfl rfl hF rfl (run_move rfl (hF.ev rfl)) ?_; clear hF; intro a hF
  refine op_val (v:=.agg #[.slice (subA c0 ((0:Int).toNat) 1 A0) ((subL x0 0 2000).length) (c0 - (0:Int).toNat),.int .i64 0]) rfl rfl hF rfl (run_build (vs:=[(0,.slice (subA c0 ((0:Int).toNat) 1 A0) ((subL x0 0 2000).length) (c0 - (0:Int).toNat))]) rfl ⟨⟨rfl,(hF.ev rfl)⟩,trivial⟩ (bd117_0 rfl)) ?_; clear hF; intro a hF
  refine op_new (cs:=#[.slice (subA c0 ((0:Int).toNat) 1 A0) ((subL x0 0 2000).length) (c0 - (0:Int).toNat),.int .i64 0]) rfl rfl hF rfl S (run_box rfl (hF.ev rfl) rfl) ?_; clear hF S; intro a g104 u hF S
  refine op_val (v:=.pointer (some ⟨g104,0,none⟩)) rfl rfl hF rfl (run_assign rfl (hF.ev rfl)) ?_; clear hF; intro a hF
  refine wpList_nil ?_
  refine wp_ret ?_
  repeat with_reducible (first | refine then_ret ?_ | refine in_ret ?_ | refine in_nrm ?_)
  refine ret1_gw (.inl rfl) hF rfl (res_tmp (hF.ev rfl)) ?_
  have q1:=ltB_t hc101
  rw [opA,if_pos (by omega),take_sub]
  exact ⟨g104,rfl,S.sel [0] rfl rfl⟩
def opn:List (Nat×Nat):=[(32,117)]
theorem opn_ok:Opens Tryz.prog opn:=⟨open_ok ⟨by kernel_rfl⟩ c_spec_l20Open,trivial⟩
theorem eqt_ok:Eqps Tryz.prog eqt:=⟨⟨eg77,fun w x y=>eq77⟩,⟨eg122,fun w x y=>eq122⟩,⟨eg125,fun w x y=>eq125⟩,trivial⟩
def k_strconv_Itoa:Ctr:=⟨103,[.o (.int .i64)],[.o .s],false,fun x=>m_strconv_Itoa x⟩
theorem d_strconv_Itoa:Cok Tryz.prog k_strconv_Itoa:=hd_Itoa (co103)
def k_strings_Split:Ctr:=⟨51,[.o .s,.o .s],[.o (.row 9 .s)],false,fun x=>m_strings_Split x.1 x.2⟩
theorem d_strings_Split:Cok Tryz.prog k_strings_Split:=hd_Split (co51)
def k_strings_Join:Ctr:=⟨122,[.o (.sl .ro 9 .s),.o .s],[.o .s],false,fun x=>m_strings_Join x.1 x.2⟩
theorem d_strings_Join:Cok Tryz.prog k_strings_Join:=hd_Join (co122)
def k_Number_r (n:Nat):Ctr:=⟨62,[.o (.int .i64)],[.o .s],false,fun x=>itr m_Number_s n x⟩
theorem d_Number_r : ∀ n,Cok Tryz.prog (k_Number_r n)
 | 0=>⟨co62,fun x res h=>by cases h⟩
 | n+1=>cok (op:=opn) (cs:=[k_Number_r n]) (rv:=[.tmp 2]) (crt:=.q .z (.q (.q .z (.q (.q .z .z) .z)) (.q (.q .z (.q (.q .z .z) .z)) (.q (.q .z (.q (.q .z .z) .z)) (.q .z .z))))) tys_ok eqt_ok rfl ⟨d_Number_r n,trivial⟩ opn_ok co62 Tryz.func62 rfl Tryz.ntmps62 rfl rfl (fun _=>by kernel_rfl)
def k_spec_l1Number:Ctr:=⟨62,[.o (.int .i64)],[.o .s],false,fun x=>m_spec_l1Number x⟩
theorem d_spec_l1Number:Cok Tryz.prog k_spec_l1Number:=hd_Number (d_Number_r 30)
def k_impl_Net_hasBus:Ctr:=⟨165,[.g [.int .i64,.sl .ro 77 (.p (.int .i64) (.p (.int .i64) (.int .i64)))],.o (.int .i64)],[.o .b],false,fun x=>m_impl_Net_hasBus x.1 x.2.1 x.2.2⟩
theorem d_impl_Net_hasBus:Cok Tryz.prog k_impl_Net_hasBus:=cok (op:=opn) (cs:=[]) (rv:=[.tmp 4]) (crt:=.q .z (.q .z .z)) tys_ok eqt_ok rfl trivial opn_ok co165 Tryz.func165 rfl Tryz.ntmps165 rfl rfl (fun _=>by kernel_rfl)
def k_impl_NetValid:Ctr:=⟨100,[.g [.int .i64,.sl .ro 77 (.p (.int .i64) (.p (.int .i64) (.int .i64)))]],[.o .b],false,fun x=>m_impl_NetValid x.1 x.2⟩
theorem d_impl_NetValid:Cok Tryz.prog k_impl_NetValid:=cok (op:=opn) (cs:=[k_impl_Net_hasBus]) (rv:=[.tmp 2]) (crt:=.q .z (.q (.q .z (.q (.q .z .z) .z)) (.q (.q .z (.cut ⟨[(2,.o .k)],[],[]⟩ [.rt] (.b (.lp ⟨[(1,.o .k),(2,.o .k),(20,.o .k),(21,.o .k),(22,.o (.i .i64))],[(1,[.k,.k])],[]⟩ (.q .z (.q (.q .z .z) (.q (.b (.q .z (.q .z (.q (.q .z .z) .z)))) .z))))))) (.q .z .z)))) tys_ok eqt_ok rfl ⟨d_impl_Net_hasBus,trivial⟩ opn_ok co100 Tryz.func100 rfl Tryz.ntmps100 rfl rfl (fun _=>by kernel_rfl)
def k_impl_digitsOf:Ctr:=⟨179,[.o .s],[.o (.int .i64)],false,fun x=>m_impl_digitsOf x⟩
theorem d_impl_digitsOf:Cok Tryz.prog k_impl_digitsOf:=cok (op:=opn) (cs:=[]) (rv:=[.tmp 2]) (crt:=.q .z (.q (.q .z (.q (.q .z .z) .z)) (.q .z (.q (.q .z (.cut ⟨[(2,.o .k),(3,.o (.i .i64))],[],[]⟩ [.rt] (.b (.lp ⟨[(0,.o .k),(2,.o .k),(3,.o (.i .i64)),(14,.o .k),(15,.o (.i .i64))],[],[]⟩ (.q .z (.q (.q .z .z) (.q (.b (.q .z (.q (.q .z (.q (.q .z .z) .z)) .z))) .z))))))) (.q .z .z))))) tys_ok eqt_ok rfl trivial opn_ok co179 Tryz.func179 rfl Tryz.ntmps179 rfl rfl (fun _=>by kernel_rfl)
def k_impl_readNumber:Ctr:=⟨118,[.o .s],[.o (.int .i64),.o .b],false,fun x=>m_impl_readNumber x⟩
theorem d_impl_readNumber:Cok Tryz.prog k_impl_readNumber:=cok (op:=opn) (cs:=[k_impl_digitsOf,k_strconv_Itoa]) (rv:=[.tmp 2,.tmp 3]) (crt:=.q .z (.q .z (.q .z .z))) tys_ok eqt_ok rfl ⟨d_impl_digitsOf,d_strconv_Itoa,trivial⟩ opn_ok co118 Tryz.func118 rfl Tryz.ntmps118 rfl rfl (fun _=>by kernel_rfl)
def k_impl_NetText:Ctr:=⟨42,[.g [.int .i64,.sl .ro 77 (.p (.int .i64) (.p (.int .i64) (.int .i64)))]],[.o .s],false,fun x=>m_impl_NetText x.1 x.2⟩
theorem d_impl_NetText:Cok Tryz.prog k_impl_NetText:=hd_NetText (co42) d_impl_NetValid
def k_impl_readDeed:Ctr:=⟨52,[.o (.sl .ro 9 .s)],[.g [.int .i64,.int .i64,.int .i64],.o .b],false,fun x=>m_impl_readDeed x⟩
theorem d_impl_readDeed:Cok Tryz.prog k_impl_readDeed:=hd_readDeed (co52) d_impl_readNumber
def k_spec_l20Rd_pick:Ctr:=⟨34,[.bx 117 [.sl .ro 5 (.int .u8),.int .i64],.o (.int .i64)],[.o (.int .i64)],true,fun x=>m_spec_l20Rd_pick x.1 x.2.1 x.2.2⟩
theorem d_spec_l20Rd_pick:Cok Tryz.prog k_spec_l20Rd_pick:=cok (op:=opn) (cs:=[]) (rv:=[.tmp 4]) (crt:=.q .z (.q .z (.q (.q .z (.q (.q .z .z) .z)) (.q .z (.q (.q .z (.q (.q .z .z) .z)) (.q .z (.q .z (.q .z .z)))))))) tys_ok eqt_ok rfl trivial opn_ok co34 Tryz.func34 rfl Tryz.ntmps34 rfl rfl (fun _=>by kernel_rfl)
def k_spec_l20Rd_odd:Ctr:=⟨36,[.bx 117 [.sl .ro 5 (.int .u8),.int .i64],.o (.int .i64)],[.o .b],true,fun x=>m_spec_l20Rd_odd x.1 x.2.1 x.2.2⟩
theorem d_spec_l20Rd_odd:Cok Tryz.prog k_spec_l20Rd_odd:=cok (op:=opn) (cs:=[k_spec_l20Rd_pick]) (rv:=[.tmp 4]) (crt:=.q .z (.q (.cut ⟨[(4,.o .b)],[(4096,[.k,.i .i64])],[]⟩ [] .z) .z)) tys_ok eqt_ok rfl ⟨d_spec_l20Rd_pick,trivial⟩ opn_ok co36 Tryz.func36 rfl Tryz.ntmps36 rfl rfl (fun _=>by kernel_rfl)
def k_spec_l20Radial:Ctr:=⟨93,[.bx 117 [.sl .ro 5 (.int .u8),.int .i64],.o (.int .i64)],[.g [.int .i64,.row 77 (.p (.int .i64) (.p (.int .i64) (.int .i64)))],.o (.row 4 .b),.o (.row 122 (.p (.int .i64) (.int .i64)))],true,fun x=>m_spec_l20Radial x.1 x.2.1 x.2.2⟩
theorem d_spec_l20Radial:Cok Tryz.prog k_spec_l20Radial:=cok (op:=opn) (cs:=[k_spec_l20Rd_pick,k_spec_l20Rd_odd]) (rv:=[.cell 4 25,.tmp 5,.tmp 6]) (crt:=.q .z (.q .z (.q .z (.q .z (.q .z (.q (.q .z (.cut ⟨[(0,.o .k),(1,.o .k),(4,.o .k),(5,.o .k),(6,.o .k),(7,.o .k),(8,.o (.r 4 .b)),(9,.o (.r 122 (.p (.int .i64) (.int .i64))))],[(4096,[.k,.i .i64]),(7,[.k,.r 77 (.p (.int .i64) (.p (.int .i64) (.int .i64)))]),(4,[.k,.k])],[]⟩ [] (.b (.lp ⟨[(0,.o .k),(1,.o .k),(4,.o .k),(5,.o .k),(6,.o .k),(7,.o .k),(8,.o (.r 4 .b)),(9,.o (.r 122 (.p (.int .i64) (.int .i64)))),(10,.o .k),(11,.o (.i .i64))],[(4096,[.k,.i .i64]),(7,[.k,.r 77 (.p (.int .i64) (.p (.int .i64) (.int .i64)))]),(4,[.k,.k])],[]⟩ (.q (.q .z (.q .z .z)) (.q (.b (.q (.q .z (.cut ⟨[(0,.o .k),(1,.o .k),(4,.o .k),(5,.o .k),(6,.o .k),(7,.o .k),(8,.o (.r 4 .b)),(9,.o .k),(10,.o .k),(11,.o .k)],[(4096,[.k,.i .i64]),(7,[.k,.r 77 (.p (.int .i64) (.p (.int .i64) (.int .i64)))]),(4,[.k,.k])],[]⟩ [] (.q (.q .z (.cut ⟨[(0,.o .k),(1,.o .k),(4,.o .k),(5,.o .k),(6,.o .k),(7,.o .k),(8,.o (.r 4 .b)),(9,.o .k),(10,.o .k),(11,.o .k)],[(4096,[.k,.i .i64]),(7,[.k,.k]),(4,[.k,.k])],[]⟩ [] .z)) .z))) .z)) .z)))))) (.q (.q .z (.cut ⟨[(0,.o .k),(1,.o .k),(4,.o .k),(5,.o .k),(6,.o .k),(7,.o .k),(8,.o (.r 4 .b)),(9,.o .k)],[(4096,[.k,.i .i64]),(7,[.k,.r 77 (.p (.int .i64) (.p (.int .i64) (.int .i64)))]),(4,[.k,.k])],[]⟩ [] (.b (.lp ⟨[(0,.o .k),(1,.o .k),(4,.o .k),(5,.o .k),(6,.o .k),(7,.o .k),(8,.o (.r 4 .b)),(9,.o .k),(12,.o (.i .i64))],[(4096,[.k,.i .i64]),(7,[.k,.r 77 (.p (.int .i64) (.p (.int .i64) (.int .i64)))]),(4,[.k,.k])],[]⟩ (.q (.q .z (.q .z .z)) (.q (.b (.q .z (.q .z .z))) .z)))))) (.q .z (.q (.q .z (.cut ⟨[(0,.o .k),(1,.o .k),(4,.o .k),(5,.o .k),(6,.o .k),(7,.o .k),(8,.o (.w 4 .b)),(9,.o (.w 122 (.p (.int .i64) (.int .i64))))],[(4096,[.k,.i .i64]),(7,[.k,.k]),(4,[.k,.k])],[]⟩ [] (.q (.q .z (.q .z .z)) .z))) (.q (.q .z (.cut ⟨[(4,.o .k),(5,.o .k),(6,.o .k),(7,.o .k),(8,.o (.r 4 .b)),(9,.o (.r 122 (.p (.int .i64) (.int .i64))))],[(4096,[.k,.i .i64]),(7,[.k,.k]),(4,[.k,.k])],[]⟩ [] (.q (.q .z (.b (.q .z (.cut ⟨[(4,.o .k),(5,.o .k),(6,.o .k),(7,.o .k),(8,.o (.r 4 .b)),(9,.o (.r 122 (.p (.int .i64) (.int .i64))))],[(4096,[.k,.k]),(7,[.k,.k]),(4,[.k,.k])],[]⟩ [] (.q (.q .z .z) (.q .z (.cut ⟨[(4,.o .k),(5,.o .k),(6,.o .k),(7,.o .k),(8,.o (.r 4 .b)),(9,.o (.r 122 (.p (.int .i64) (.int .i64))))],[(4096,[.k,.k]),(7,[.k,.k]),(4,[.k,.k])],[]⟩ [] (.q (.q .z (.cut ⟨[(4,.o .k),(5,.o .k),(6,.o .k),(7,.o .k),(8,.o (.w 4 .b)),(9,.o .k)],[(4096,[.k,.k]),(7,[.k,.k]),(4,[.k,.k])],[]⟩ [] (.b (.lp ⟨[(4,.o .k),(5,.o .k),(6,.o .k),(7,.o .k),(8,.o (.w 4 .b)),(9,.o .k),(15,.o (.i .i64))],[(4096,[.k,.k]),(7,[.k,.k]),(4,[.k,.k])],[]⟩ (.q (.q .z (.q .z .z)) (.q (.b .z) .z)))))) (.q .z (.cut ⟨[(4,.o .k),(5,.o .k),(6,.o .k),(7,.o .k),(8,.o (.r 4 .b)),(9,.o (.r 122 (.p (.int .i64) (.int .i64))))],[(4096,[.k,.k]),(7,[.k,.k]),(4,[.k,.k])],[]⟩ [] (.q .z .z))))))))))) .z))) (.q .z .z))))))))))) tys_ok eqt_ok rfl ⟨d_spec_l20Rd_pick,d_spec_l20Rd_odd,trivial⟩ opn_ok co93 Tryz.func93 rfl Tryz.ntmps93 rfl rfl (fun _=>by kernel_rfl)
def k_spec_l20WorldDeed:Ctr:=⟨94,[.bx 117 [.sl .ro 5 (.int .u8),.int .i64],.g [.int .i64,.sl .ro 77 (.p (.int .i64) (.p (.int .i64) (.int .i64))),.sl .ro 122 (.p (.int .i64) (.int .i64)),.sl .ro 4 .b,.sl .ro 4 .b,.sl .ro 125 (.p (.int .i64) (.int .i64)),.sl .ro 3 (.int .i64)]],[.g [.int .i64,.int .i64,.int .i64]],true,fun x=>m_spec_l20WorldDeed x.1 x.2.1 x.2.2.1 x.2.2.2.1 x.2.2.2.2.1 x.2.2.2.2.2.1 x.2.2.2.2.2.2.1 x.2.2.2.2.2.2.2.1 x.2.2.2.2.2.2.2.2⟩
theorem d_spec_l20WorldDeed:Cok Tryz.prog k_spec_l20WorldDeed:=cok (op:=opn) (cs:=[k_spec_l20Rd_pick]) (rv:=[.cell 4 86]) (crt:=.q .z (.q .z (.q (.q (.cut ⟨[(0,.o .k),(3,.o .k),(4,.o .k),(5,.o .k),(40,.o .b)],[(4096,[.k,.i .i64]),(5,[.k,.k,.k]),(4,[.k,.k,.k]),(3,[.k,.k,.k,.k,.k,.k,.k])],[]⟩ [] .z) (.q (.q .z (.q .z .z)) .z)) (.q .z .z)))) tys_ok eqt_ok rfl ⟨d_spec_l20Rd_pick,trivial⟩ opn_ok co94 Tryz.func94 rfl Tryz.ntmps94 rfl rfl (fun _=>by kernel_rfl)
def k_spec_l1In:Ctr:=⟨39,[.o (.int .i64),.o (.int .i64),.o (.int .i64)],[.o .b],false,fun x=>m_spec_l1In x.1 x.2.1 x.2.2⟩
theorem d_spec_l1In:Cok Tryz.prog k_spec_l1In:=cok (op:=opn) (cs:=[]) (rv:=[.tmp 6]) (crt:=.q .z (.q .z .z)) tys_ok eqt_ok rfl trivial opn_ok co39 Tryz.func39 rfl Tryz.ntmps39 rfl rfl (fun _=>by kernel_rfl)
def k_spec_NetValid:Ctr:=⟨95,[.g [.int .i64,.sl .ro 77 (.p (.int .i64) (.p (.int .i64) (.int .i64)))]],[.o .b],false,fun x=>m_spec_NetValid x.1 x.2⟩
theorem d_spec_NetValid:Cok Tryz.prog k_spec_NetValid:=cok (op:=opn) (cs:=[k_spec_l1In]) (rv:=[.tmp 2]) (crt:=.q .z (.q (.q .z (.q (.q .z .z) .z)) (.q (.q .z (.cut ⟨[(2,.o .k)],[],[]⟩ [.rt] (.b (.lp ⟨[(1,.o .k),(2,.o .k),(3,.o (.i .i64))],[(1,[.k,.k])],[]⟩ (.q (.q .z (.q .z .z)) (.q (.b (.q .z (.q .z (.q (.q .z .z) .z)))) .z)))))) (.q .z .z)))) tys_ok eqt_ok rfl ⟨d_spec_l1In,trivial⟩ opn_ok co95 Tryz.func95 rfl Tryz.ntmps95 rfl rfl (fun _=>by kernel_rfl)
def k_spec_BusesValid:Ctr:=⟨37,[.g [.int .i64,.sl .ro 77 (.p (.int .i64) (.p (.int .i64) (.int .i64)))],.o (.sl .ro 122 (.p (.int .i64) (.int .i64)))],[.o .b],false,fun x=>m_spec_BusesValid x.1 x.2.1 x.2.2⟩
theorem d_spec_BusesValid:Cok Tryz.prog k_spec_BusesValid:=cok (op:=opn) (cs:=[k_spec_l1In,k_spec_NetValid]) (rv:=[.tmp 4]) (crt:=.q .z (.q (.q .z (.cut ⟨[(1,.o .k),(2,.o .k),(4,.o .k)],[(2,[.k,.k])],[]⟩ [.rt] (.b (.lp ⟨[(1,.o .k),(2,.o .k),(4,.o .k),(5,.o (.i .i64))],[(2,[.k,.k])],[]⟩ (.q (.q .z (.q .z .z)) (.q (.b (.q .z (.q (.q .z .z) .z))) .z)))))) (.q .z .z))) tys_ok eqt_ok rfl ⟨d_spec_l1In,d_spec_NetValid,trivial⟩ opn_ok co37 Tryz.func37 rfl Tryz.ntmps37 rfl rfl (fun _=>by kernel_rfl)
def k_spec_l12Find:Ctr:=⟨96,[.o (.sl .ro 125 (.p (.int .i64) (.int .i64))),.g [.int .i64,.int .i64]],[.o (.int .i64)],false,fun x=>m_spec_l12Find x.1 x.2.1 x.2.2⟩
theorem d_spec_l12Find:Cok Tryz.prog k_spec_l12Find:=cok (op:=opn) (cs:=[]) (rv:=[.tmp 4]) (crt:=.q .z (.q (.q .z (.cut ⟨[(4,.o .k)],[],[]⟩ [.rt] (.b (.lp ⟨[(0,.o .k),(3,.o .k),(4,.o .k),(5,.o (.i .i64))],[(3,[.k,.k])],[]⟩ (.q (.q .z (.q .z .z)) (.q (.b (.q .z (.q (.q .z .z) .z))) .z)))))) (.q .z .z))) tys_ok eqt_ok rfl trivial opn_ok co96 Tryz.func96 rfl Tryz.ntmps96 rfl rfl (fun _=>by kernel_rfl)
def k_spec_WorkValid:Ctr:=⟨38,[.g [.sl .ro 4 .b,.sl .ro 4 .b,.sl .ro 125 (.p (.int .i64) (.int .i64))]],[.o .b],false,fun x=>m_spec_WorkValid x.1 x.2.1 x.2.2⟩
theorem d_spec_WorkValid:Cok Tryz.prog k_spec_WorkValid:=cok (op:=opn) (cs:=[k_spec_l1In,k_spec_l12Find]) (rv:=[.tmp 2]) (crt:=.q .z (.q (.q .z (.q (.q .z .z) .z)) (.q (.q .z (.cut ⟨[(1,.o .k),(2,.o .k)],[(1,[.k,.k,.k])],[]⟩ [.rt] (.b (.lp ⟨[(1,.o .k),(2,.o .k),(3,.o (.i .i64))],[(1,[.k,.k,.k])],[]⟩ (.q (.q .z (.q .z .z)) (.q (.b (.q .z (.q (.q .z .z) .z))) .z)))))) (.q (.q .z (.cut ⟨[(2,.o .k)],[],[]⟩ [.rt] (.b (.lp ⟨[(1,.o .k),(2,.o .k),(4,.o (.i .i64))],[(1,[.k,.k,.k])],[]⟩ (.q (.q .z (.q .z .z)) (.q (.b (.q .z (.q .z (.q (.q .z .z) .z)))) .z)))))) (.q .z .z))))) tys_ok eqt_ok rfl ⟨d_spec_l1In,d_spec_l12Find,trivial⟩ opn_ok co38 Tryz.func38 rfl Tryz.ntmps38 rfl rfl (fun _=>by kernel_rfl)
def k_spec_StateValid:Ctr:=⟨162,[.g [.int .i64,.sl .ro 77 (.p (.int .i64) (.p (.int .i64) (.int .i64)))],.o (.sl .ro 4 .b)],[.o .b],false,fun x=>m_spec_StateValid x.1 x.2.1 x.2.2⟩
theorem d_spec_StateValid:Cok Tryz.prog k_spec_StateValid:=cok (op:=opn) (cs:=[k_spec_NetValid]) (rv:=[.tmp 4]) (crt:=.q .z (.q .z .z)) tys_ok eqt_ok rfl ⟨d_spec_NetValid,trivial⟩ opn_ok co162 Tryz.func162 rfl Tryz.ntmps162 rfl rfl (fun _=>by kernel_rfl)
def k_spec_l5Ok:Ctr:=⟨97,[.g [.int .i64,.sl .ro 77 (.p (.int .i64) (.p (.int .i64) (.int .i64)))],.o (.sl .ro 4 .b),.o (.sl .ro 122 (.p (.int .i64) (.int .i64)))],[.o .b],false,fun x=>m_spec_l5Ok x.1 x.2.1 x.2.2.1 x.2.2.2⟩
theorem d_spec_l5Ok:Cok Tryz.prog k_spec_l5Ok:=cok (op:=opn) (cs:=[k_spec_StateValid,k_spec_BusesValid]) (rv:=[.tmp 6]) (crt:=.q .z (.q .z .z)) tys_ok eqt_ok rfl ⟨d_spec_StateValid,d_spec_BusesValid,trivial⟩ opn_ok co97 Tryz.func97 rfl Tryz.ntmps97 rfl rfl (fun _=>by kernel_rfl)
def k_spec_l2Copy:Ctr:=⟨190,[.o (.sl .ro 4 .b)],[.o (.row 4 .b)],false,fun x=>m_spec_l2Copy x⟩
theorem d_spec_l2Copy:Cok Tryz.prog k_spec_l2Copy:=cok (op:=opn) (cs:=[]) (rv:=[.tmp 2]) (crt:=.q .z (.q .z .z)) tys_ok eqt_ok rfl trivial opn_ok co190 Tryz.func190 rfl Tryz.ntmps190 rfl rfl (fun _=>by kernel_rfl)
def k_spec_SwitchLine:Ctr:=⟨200,[.g [.int .i64,.sl .ro 77 (.p (.int .i64) (.p (.int .i64) (.int .i64)))],.o (.sl .ro 4 .b),.o (.int .i64),.o .b],[.o (.row 4 .b),.o .b],false,fun x=>m_spec_SwitchLine x.1 x.2.1 x.2.2.1 x.2.2.2.1 x.2.2.2.2⟩
theorem d_spec_SwitchLine:Cok Tryz.prog k_spec_SwitchLine:=cok (op:=opn) (cs:=[k_spec_StateValid,k_spec_l2Copy,k_spec_l1In]) (rv:=[.tmp 8,.tmp 9]) (crt:=.q .z (.q (.q .z (.q (.q .z .z) .z)) (.q .z (.q (.q .z (.q (.q .z .z) .z)) (.q .z (.q .z .z)))))) tys_ok eqt_ok rfl ⟨d_spec_StateValid,d_spec_l2Copy,d_spec_l1In,trivial⟩ opn_ok co200 Tryz.func200 rfl Tryz.ntmps200 rfl rfl (fun _=>by kernel_rfl)
def k_spec_l3Reach:Ctr:=⟨201,[.g [.int .i64,.sl .ro 77 (.p (.int .i64) (.p (.int .i64) (.int .i64)))],.o (.sl .ro 4 .b),.o (.int .i64)],[.o (.row 4 .b)],false,fun x=>m_spec_l3Reach x.1 x.2.1 x.2.2.1 x.2.2.2⟩
theorem d_spec_l3Reach:Cok Tryz.prog k_spec_l3Reach:=cok (op:=opn) (cs:=[]) (rv:=[.tmp 6]) (crt:=.q .z (.q .z (.q .z (.q (.q .z (.cut ⟨[(6,.o .k),(7,.o (.w 4 .b))],[],[]⟩ [] (.b (.lp ⟨[(1,.o .k),(3,.o .k),(6,.o .k),(7,.o (.w 4 .b)),(8,.o (.i .i64))],[(3,[.k,.k])],[]⟩ (.q (.q .z (.q .z .z)) (.q (.b (.q .z (.cut ⟨[(1,.o .k),(3,.o .k),(6,.o .k),(7,.o (.w 4 .b)),(8,.o .k)],[(3,[.k,.k])],[]⟩ [] (.b (.lp ⟨[(1,.o .k),(3,.o .k),(6,.o .k),(7,.o (.w 4 .b)),(8,.o .k),(9,.o (.i .i64))],[(3,[.k,.k])],[]⟩ (.q (.q .z (.q .z .z)) (.q (.b (.q .z (.q .z (.cut ⟨[(1,.o .k),(3,.o .k),(6,.o .k),(7,.o (.w 4 .b)),(8,.o .k),(9,.o .k)],[(3,[.k,.k])],[]⟩ [] (.q (.q .z .z) .z))))) .z))))))) .z)))))) (.q .z .z))))) tys_ok eqt_ok rfl trivial opn_ok co201 Tryz.func201 rfl Tryz.ntmps201 rfl rfl (fun _=>by kernel_rfl)
def k_spec_Reached:Ctr:=⟨164,[.g [.int .i64,.sl .ro 77 (.p (.int .i64) (.p (.int .i64) (.int .i64)))],.o (.sl .ro 4 .b),.o (.int .i64)],[.o (.row 3 (.int .i64))],false,fun x=>m_spec_Reached x.1 x.2.1 x.2.2.1 x.2.2.2⟩
theorem d_spec_Reached:Cok Tryz.prog k_spec_Reached:=cok (op:=opn) (cs:=[k_spec_StateValid,k_spec_l1In,k_spec_l3Reach]) (rv:=[.tmp 6]) (crt:=.q .z (.q .z (.q (.q .z (.q (.q .z .z) .z)) (.q .z (.q (.q .z (.cut ⟨[(6,.o .k),(7,.o (.r 3 (.int .i64)))],[],[]⟩ [] (.b (.lp ⟨[(3,.o .k),(6,.o .k),(7,.o (.r 3 (.int .i64))),(8,.o .k),(9,.o (.i .i64))],[(3,[.k,.k])],[]⟩ (.q (.q .z (.q .z .z)) (.q (.b (.q .z (.cut ⟨[(3,.o .k),(6,.o .k),(7,.o (.r 3 (.int .i64))),(8,.o .k),(9,.o .k)],[(3,[.k,.k])],[]⟩ [] (.q .z .z)))) .z)))))) (.q .z .z)))))) tys_ok eqt_ok rfl ⟨d_spec_StateValid,d_spec_l1In,d_spec_l3Reach,trivial⟩ opn_ok co164 Tryz.func164 rfl Tryz.ntmps164 rfl rfl (fun _=>by kernel_rfl)
def k_spec_l1Has:Ctr:=⟨136,[.o (.sl .ro 3 (.int .i64)),.o (.int .i64)],[.o .b],false,fun x=>m_spec_l1Has x.1 x.2⟩
theorem d_spec_l1Has:Cok Tryz.prog k_spec_l1Has:=cok (op:=opn) (cs:=[]) (rv:=[.tmp 4]) (crt:=.q .z (.q (.q .z (.cut ⟨[(4,.o .k)],[],[]⟩ [.rt] (.b (.lp ⟨[(0,.o .k),(1,.o .k),(4,.o .k),(5,.o (.i .i64))],[],[]⟩ (.q (.q .z (.q .z .z)) (.q (.b (.q .z (.q (.q .z .z) .z))) .z)))))) (.q .z .z))) tys_ok eqt_ok rfl trivial opn_ok co136 Tryz.func136 rfl Tryz.ntmps136 rfl rfl (fun _=>by kernel_rfl)
def k_spec_SameIsland:Ctr:=⟨99,[.g [.int .i64,.sl .ro 77 (.p (.int .i64) (.p (.int .i64) (.int .i64)))],.o (.sl .ro 4 .b),.o (.int .i64),.o (.int .i64)],[.o .b],false,fun x=>m_spec_SameIsland x.1 x.2.1 x.2.2.1 x.2.2.2.1 x.2.2.2.2⟩
theorem d_spec_SameIsland:Cok Tryz.prog k_spec_SameIsland:=cok (op:=opn) (cs:=[k_spec_Reached,k_spec_l1Has]) (rv:=[.tmp 8]) (crt:=.q .z (.q .z .z)) tys_ok eqt_ok rfl ⟨d_spec_Reached,d_spec_l1Has,trivial⟩ opn_ok co99 Tryz.func99 rfl Tryz.ntmps99 rfl rfl (fun _=>by kernel_rfl)
def k_spec_CycleLines:Ctr:=⟨163,[.g [.int .i64,.sl .ro 77 (.p (.int .i64) (.p (.int .i64) (.int .i64)))],.o (.sl .ro 4 .b)],[.o (.row 3 (.int .i64))],false,fun x=>m_spec_CycleLines x.1 x.2.1 x.2.2⟩
theorem d_spec_CycleLines:Cok Tryz.prog k_spec_CycleLines:=cok (op:=opn) (cs:=[k_spec_StateValid,k_spec_SwitchLine,k_spec_SameIsland]) (rv:=[.tmp 4]) (crt:=.q .z (.q .z (.q (.q .z (.cut ⟨[(4,.o .k),(5,.o (.r 3 (.int .i64)))],[],[]⟩ [] (.b (.lp ⟨[(1,.o .k),(2,.o .k),(4,.o .k),(5,.o (.r 3 (.int .i64))),(6,.o (.i .i64))],[(2,[.k,.k])],[]⟩ (.q (.q .z (.q .z .z)) (.q (.b (.q .z (.q .z (.cut ⟨[(1,.o .k),(2,.o .k),(4,.o .k),(5,.o (.r 3 (.int .i64))),(6,.o .k)],[(2,[.k,.k])],[]⟩ [] (.q .z .z))))) .z)))))) (.q .z .z)))) tys_ok eqt_ok rfl ⟨d_spec_StateValid,d_spec_SwitchLine,d_spec_SameIsland,trivial⟩ opn_ok co163 Tryz.func163 rfl Tryz.ntmps163 rfl rfl (fun _=>by kernel_rfl)
def k_spec_HasCycle:Ctr:=⟨98,[.g [.int .i64,.sl .ro 77 (.p (.int .i64) (.p (.int .i64) (.int .i64)))],.o (.sl .ro 4 .b)],[.o .b],false,fun x=>m_spec_HasCycle x.1 x.2.1 x.2.2⟩
theorem d_spec_HasCycle:Cok Tryz.prog k_spec_HasCycle:=cok (op:=opn) (cs:=[k_spec_CycleLines]) (rv:=[.tmp 4]) (crt:=.q .z (.q .z .z)) tys_ok eqt_ok rfl ⟨d_spec_CycleLines,trivial⟩ opn_ok co98 Tryz.func98 rfl Tryz.ntmps98 rfl rfl (fun _=>by kernel_rfl)
def k_spec_Radial:Ctr:=⟨40,[.g [.int .i64,.sl .ro 77 (.p (.int .i64) (.p (.int .i64) (.int .i64)))],.o (.sl .ro 4 .b),.o (.sl .ro 122 (.p (.int .i64) (.int .i64)))],[.o .b],false,fun x=>m_spec_Radial x.1 x.2.1 x.2.2.1 x.2.2.2⟩
theorem d_spec_Radial:Cok Tryz.prog k_spec_Radial:=cok (op:=opn) (cs:=[k_spec_l5Ok,k_spec_HasCycle,k_spec_SameIsland]) (rv:=[.tmp 6]) (crt:=.q .z (.q (.q .z (.q (.q .z .z) .z)) (.q (.q .z (.cut ⟨[(6,.o .k)],[],[]⟩ [.rt] (.b (.lp ⟨[(1,.o .k),(2,.o .k),(3,.o .k),(6,.o .k),(7,.o (.i .i64))],[(3,[.k,.k])],[]⟩ (.q (.q .z (.q .z .z)) (.q (.b (.q .z (.cut ⟨[(1,.o .k),(2,.o .k),(3,.o .k),(6,.o .k),(7,.o .k)],[(3,[.k,.k])],[]⟩ [.rt] (.b (.lp ⟨[(1,.o .k),(2,.o .k),(3,.o .k),(6,.o .k),(7,.o .k),(8,.o (.i .i64))],[(3,[.k,.k])],[]⟩ (.q (.q .z (.q .z .z)) (.q (.b (.q .z (.q (.q .z .z) .z))) .z))))))) .z)))))) (.q .z .z)))) tys_ok eqt_ok rfl ⟨d_spec_l5Ok,d_spec_HasCycle,d_spec_SameIsland,trivial⟩ opn_ok co40 Tryz.func40 rfl Tryz.ntmps40 rfl rfl (fun _=>by kernel_rfl)
def k_spec_WorldValid:Ctr:=⟨9,[.g [.int .i64,.sl .ro 77 (.p (.int .i64) (.p (.int .i64) (.int .i64))),.sl .ro 122 (.p (.int .i64) (.int .i64)),.sl .ro 4 .b,.sl .ro 4 .b,.sl .ro 125 (.p (.int .i64) (.int .i64)),.sl .ro 3 (.int .i64)]],[.o .b],false,fun x=>m_spec_WorldValid x.1 x.2.1 x.2.2.1 x.2.2.2.1 x.2.2.2.2.1 x.2.2.2.2.2.1 x.2.2.2.2.2.2⟩
theorem d_spec_WorldValid:Cok Tryz.prog k_spec_WorldValid:=cok (op:=opn) (cs:=[k_spec_BusesValid,k_spec_WorkValid,k_spec_l1In,k_spec_Radial]) (rv:=[.tmp 2]) (crt:=.q .z (.q (.q .z (.q (.q .z .z) .z)) (.q (.q .z (.cut ⟨[(1,.o .k),(2,.o .k)],[(1,[.k,.k,.k,.k,.k,.k,.k])],[]⟩ [.rt] (.b (.lp ⟨[(1,.o .k),(2,.o .k),(3,.o (.i .i64))],[(1,[.k,.k,.k,.k,.k,.k,.k])],[]⟩ (.q (.q .z (.q .z .z)) (.q (.b (.q .z (.q (.q .z .z) .z))) .z)))))) (.q .z .z)))) tys_ok eqt_ok rfl ⟨d_spec_BusesValid,d_spec_WorkValid,d_spec_l1In,d_spec_Radial,trivial⟩ opn_ok co9 Tryz.func9 rfl Tryz.ntmps9 rfl rfl (fun _=>by kernel_rfl)
def k_spec_l12Copy:Ctr:=⟨130,[.g [.sl .ro 4 .b,.sl .ro 4 .b,.sl .ro 125 (.p (.int .i64) (.int .i64))]],[.g [.row 4 .b,.row 4 .b,.row 125 (.p (.int .i64) (.int .i64))]],false,fun x=>m_spec_l12Copy x.1 x.2.1 x.2.2⟩
theorem d_spec_l12Copy:Cok Tryz.prog k_spec_l12Copy:=cok (op:=opn) (cs:=[k_spec_l2Copy]) (rv:=[.cell 2 30]) (crt:=.q .z (.q .z .z)) tys_ok eqt_ok rfl ⟨d_spec_l2Copy,trivial⟩ opn_ok co130 Tryz.func130 rfl Tryz.ntmps130 rfl rfl (fun _=>by kernel_rfl)
def k_spec_l39Copy:Ctr:=⟨61,[.g [.int .i64,.sl .ro 77 (.p (.int .i64) (.p (.int .i64) (.int .i64))),.sl .ro 122 (.p (.int .i64) (.int .i64)),.sl .ro 4 .b,.sl .ro 4 .b,.sl .ro 125 (.p (.int .i64) (.int .i64)),.sl .ro 3 (.int .i64)]],[.g [.int .i64,.row 77 (.p (.int .i64) (.p (.int .i64) (.int .i64))),.row 122 (.p (.int .i64) (.int .i64)),.row 4 .b,.row 4 .b,.row 125 (.p (.int .i64) (.int .i64)),.row 3 (.int .i64)]],false,fun x=>m_spec_l39Copy x.1 x.2.1 x.2.2.1 x.2.2.2.1 x.2.2.2.2.1 x.2.2.2.2.2.1 x.2.2.2.2.2.2⟩
theorem d_spec_l39Copy:Cok Tryz.prog k_spec_l39Copy:=cok (op:=opn) (cs:=[k_spec_l12Copy]) (rv:=[.cell 2 33]) (crt:=.q .z (.q .z (.q .z .z))) tys_ok eqt_ok rfl ⟨d_spec_l12Copy,trivial⟩ opn_ok co61 Tryz.func61 rfl Tryz.ntmps61 rfl rfl (fun _=>by kernel_rfl)
def k_spec_WorkHeld:Ctr:=⟨138,[.g [.sl .ro 4 .b,.sl .ro 4 .b,.sl .ro 125 (.p (.int .i64) (.int .i64))],.o (.int .i64)],[.o (.row 3 (.int .i64))],false,fun x=>m_spec_WorkHeld x.1 x.2.1 x.2.2.1 x.2.2.2⟩
theorem d_spec_WorkHeld:Cok Tryz.prog k_spec_WorkHeld:=cok (op:=opn) (cs:=[k_spec_WorkValid]) (rv:=[.tmp 4]) (crt:=.q .z (.q .z (.q (.q .z (.cut ⟨[(4,.o .k),(5,.o (.r 3 (.int .i64)))],[],[]⟩ [] (.b (.lp ⟨[(1,.o .k),(2,.o .k),(4,.o .k),(5,.o (.r 3 (.int .i64))),(6,.o (.i .i64))],[(2,[.k,.k,.k])],[]⟩ (.q (.q .z (.q .z .z)) (.q (.b (.q .z (.cut ⟨[(1,.o .k),(2,.o .k),(4,.o .k),(5,.o (.r 3 (.int .i64))),(6,.o .k)],[(2,[.k,.k,.k])],[]⟩ [] (.q .z .z)))) .z)))))) (.q .z .z)))) tys_ok eqt_ok rfl ⟨d_spec_WorkValid,trivial⟩ opn_ok co138 Tryz.func138 rfl Tryz.ntmps138 rfl rfl (fun _=>by kernel_rfl)
def k_spec_l39Mend:Ctr:=⟨139,[.g [.int .i64,.sl .ro 77 (.p (.int .i64) (.p (.int .i64) (.int .i64))),.sl .ro 122 (.p (.int .i64) (.int .i64)),.sl .ro 4 .b,.sl .ro 4 .b,.sl .ro 125 (.p (.int .i64) (.int .i64)),.sl .ro 3 (.int .i64)],.o (.int .i64)],[.g [.int .i64,.row 77 (.p (.int .i64) (.p (.int .i64) (.int .i64))),.row 122 (.p (.int .i64) (.int .i64)),.row 4 .b,.row 4 .b,.row 125 (.p (.int .i64) (.int .i64)),.row 3 (.int .i64)]],false,fun x=>m_spec_l39Mend x.1 x.2.1 x.2.2.1 x.2.2.2.1 x.2.2.2.2.1 x.2.2.2.2.2.1 x.2.2.2.2.2.2.1 x.2.2.2.2.2.2.2⟩
theorem d_spec_l39Mend:Cok Tryz.prog k_spec_l39Mend:=cok (op:=opn) (cs:=[k_spec_l39Copy]) (rv:=[.cell 4 33]) (crt:=.q .z (.q .z (.q .z (.q (.q .z (.cut ⟨[(4,.o .k),(5,.o .k)],[(5,[.k,.k,.k,.k,.k,.k,.r 3 (.int .i64)]),(4,[.k,.k,.k,.k,.k,.k,.k])],[]⟩ [] (.b (.lp ⟨[(1,.o .k),(2,.o .k),(4,.o .k),(5,.o .k),(6,.o (.i .i64))],[(5,[.k,.k,.k,.k,.k,.k,.r 3 (.int .i64)]),(4,[.k,.k,.k,.k,.k,.k,.k]),(2,[.k,.k,.k,.k,.k,.k,.k])],[]⟩ (.q (.q .z (.q .z .z)) (.q (.b (.q .z (.cut ⟨[(1,.o .k),(2,.o .k),(4,.o .k),(5,.o .k),(6,.o .k)],[(5,[.k,.k,.k,.k,.k,.k,.r 3 (.int .i64)]),(4,[.k,.k,.k,.k,.k,.k,.k]),(2,[.k,.k,.k,.k,.k,.k,.k])],[]⟩ [] (.q .z .z)))) .z)))))) (.q .z .z))))) tys_ok eqt_ok rfl ⟨d_spec_l39Copy,trivial⟩ opn_ok co139 Tryz.func139 rfl Tryz.ntmps139 rfl rfl (fun _=>by kernel_rfl)
def k_spec_l39Break:Ctr:=⟨137,[.g [.int .i64,.sl .ro 77 (.p (.int .i64) (.p (.int .i64) (.int .i64))),.sl .ro 122 (.p (.int .i64) (.int .i64)),.sl .ro 4 .b,.sl .ro 4 .b,.sl .ro 125 (.p (.int .i64) (.int .i64)),.sl .ro 3 (.int .i64)],.o (.int .i64)],[.g [.int .i64,.row 77 (.p (.int .i64) (.p (.int .i64) (.int .i64))),.row 122 (.p (.int .i64) (.int .i64)),.row 4 .b,.row 4 .b,.row 125 (.p (.int .i64) (.int .i64)),.row 3 (.int .i64)]],false,fun x=>m_spec_l39Break x.1 x.2.1 x.2.2.1 x.2.2.2.1 x.2.2.2.2.1 x.2.2.2.2.2.1 x.2.2.2.2.2.2.1 x.2.2.2.2.2.2.2⟩
theorem d_spec_l39Break:Cok Tryz.prog k_spec_l39Break:=cok (op:=opn) (cs:=[k_spec_l39Copy,k_spec_l1Has]) (rv:=[.cell 4 33]) (crt:=.q .z (.q .z (.q .z (.q .z (.q (.q .z (.cut ⟨[(4,.o .k),(5,.o .k)],[(5,[.k,.k,.k,.k,.k,.k,.r 3 (.int .i64)]),(4,[.k,.k,.k,.k,.k,.k,.k])],[]⟩ [] (.b (.lp ⟨[(1,.o .k),(2,.o .k),(4,.o .k),(5,.o .k),(6,.o (.i .i64))],[(5,[.k,.k,.k,.k,.k,.k,.r 3 (.int .i64)]),(4,[.k,.k,.k,.k,.k,.k,.k]),(2,[.k,.k,.k,.k,.k,.k,.k])],[]⟩ (.q (.q .z (.q .z .z)) (.q (.b (.q .z (.cut ⟨[(1,.o .k),(2,.o .k),(4,.o .k),(5,.o .k),(6,.o .k)],[(5,[.k,.k,.k,.k,.k,.k,.r 3 (.int .i64)]),(4,[.k,.k,.k,.k,.k,.k,.k]),(2,[.k,.k,.k,.k,.k,.k,.k])],[]⟩ [] (.q .z .z)))) .z)))))) (.q .z .z)))))) tys_ok eqt_ok rfl ⟨d_spec_l39Copy,d_spec_l1Has,trivial⟩ opn_ok co137 Tryz.func137 rfl Tryz.ntmps137 rfl rfl (fun _=>by kernel_rfl)
def k_spec_l12May:Ctr:=⟨194,[.g [.sl .ro 4 .b,.sl .ro 4 .b,.sl .ro 125 (.p (.int .i64) (.int .i64))],.g [.int .i64,.int .i64,.int .i64]],[.o .b],false,fun x=>m_spec_l12May x.1 x.2.1 x.2.2.1 x.2.2.2.1 x.2.2.2.2.1 x.2.2.2.2.2⟩
theorem d_spec_l12May:Cok Tryz.prog k_spec_l12May:=cok (op:=opn) (cs:=[k_spec_l12Find,k_spec_WorkHeld,k_spec_l1In]) (rv:=[.tmp 4]) (crt:=.q .z (.q .z (.q (.q .z (.b (.q .z (.q (.q .z .z) (.q .z (.q (.q .z .z) (.q .z (.q (.q .z .z) (.q .z (.q (.q (.cut ⟨[(4,.o .b)],[],[]⟩ [] .z) .z) (.q .z (.q (.q .z .z) (.q .z (.q (.q .z .z) .z)))))))))))))) (.q .z .z)))) tys_ok eqt_ok rfl ⟨d_spec_l12Find,d_spec_WorkHeld,d_spec_l1In,trivial⟩ opn_ok co194 Tryz.func194 rfl Tryz.ntmps194 rfl rfl (fun _=>by kernel_rfl)
def k_spec_WorkDo:Ctr:=⟨140,[.g [.sl .ro 4 .b,.sl .ro 4 .b,.sl .ro 125 (.p (.int .i64) (.int .i64))],.g [.int .i64,.int .i64,.int .i64]],[.g [.row 4 .b,.row 4 .b,.row 125 (.p (.int .i64) (.int .i64))],.o .b],false,fun x=>m_spec_WorkDo x.1 x.2.1 x.2.2.1 x.2.2.2.1 x.2.2.2.2.1 x.2.2.2.2.2⟩
theorem d_spec_WorkDo:Cok Tryz.prog k_spec_WorkDo:=cok (op:=opn) (cs:=[k_spec_WorkValid,k_spec_l12Copy,k_spec_l1In,k_spec_l12May,k_spec_l12Find]) (rv:=[.cell 4 30,.tmp 5]) (crt:=.q .z (.q (.q .z (.q (.q .z .z) .z)) (.q .z (.q (.q .z (.q (.q .z .z) .z)) (.q (.q .z (.b (.q .z (.cut ⟨[(4,.o .k),(5,.o .k),(6,.o .k)],[(6,[.w 4 .b,.w 4 .b,.r 125 (.p (.int .i64) (.int .i64))]),(4,[.k,.k,.k])],[]⟩ [] (.q .z (.q .z (.cut ⟨[(4,.o .k),(5,.o .k),(6,.o .k)],[(6,[.w 4 .b,.w 4 .b,.r 125 (.p (.int .i64) (.int .i64))]),(4,[.k,.k,.k])],[]⟩ [] (.q .z (.q .z (.cut ⟨[(4,.o .k),(5,.o .k),(6,.o .k)],[(6,[.k,.w 4 .b,.r 125 (.p (.int .i64) (.int .i64))]),(4,[.k,.k,.k])],[]⟩ [] (.q .z (.q .z (.cut ⟨[(4,.o .k),(5,.o .k),(6,.o .k)],[(6,[.k,.w 4 .b,.r 125 (.p (.int .i64) (.int .i64))]),(4,[.k,.k,.k])],[]⟩ [] (.q .z (.q .z (.cut ⟨[(4,.o .k),(5,.o .k),(6,.o .k)],[(6,[.k,.k,.r 125 (.p (.int .i64) (.int .i64))]),(4,[.k,.k,.k])],[]⟩ [] (.q .z (.q .z .z)))))))))))))))))) (.q .z .z)))))) tys_ok eqt_ok rfl ⟨d_spec_WorkValid,d_spec_l12Copy,d_spec_l1In,d_spec_l12May,d_spec_l12Find,trivial⟩ opn_ok co140 Tryz.func140 rfl Tryz.ntmps140 rfl rfl (fun _=>by kernel_rfl)
def k_spec_WorldDo:Ctr:=⟨64,[.g [.int .i64,.sl .ro 77 (.p (.int .i64) (.p (.int .i64) (.int .i64))),.sl .ro 122 (.p (.int .i64) (.int .i64)),.sl .ro 4 .b,.sl .ro 4 .b,.sl .ro 125 (.p (.int .i64) (.int .i64)),.sl .ro 3 (.int .i64)],.g [.int .i64,.int .i64,.int .i64]],[.g [.int .i64,.row 77 (.p (.int .i64) (.p (.int .i64) (.int .i64))),.row 122 (.p (.int .i64) (.int .i64)),.row 4 .b,.row 4 .b,.row 125 (.p (.int .i64) (.int .i64)),.row 3 (.int .i64)],.o .b],false,fun x=>m_spec_WorldDo x.1 x.2.1 x.2.2.1 x.2.2.2.1 x.2.2.2.2.1 x.2.2.2.2.2.1 x.2.2.2.2.2.2.1 x.2.2.2.2.2.2.2.1 x.2.2.2.2.2.2.2.2.1 x.2.2.2.2.2.2.2.2.2⟩
theorem d_spec_WorldDo:Cok Tryz.prog k_spec_WorldDo:=cok (op:=opn) (cs:=[k_spec_WorldValid,k_spec_l1In,k_spec_l39Copy,k_spec_l1Has,k_spec_l39Break,k_spec_WorkHeld,k_spec_l39Mend,k_spec_WorkDo,k_spec_Radial]) (rv:=[.cell 4 33,.tmp 5]) (crt:=.q .z (.q (.q .z (.q (.q .z .z) .z)) (.q (.q .z (.q (.q .z .z) .z)) (.q .z (.q (.b (.q .z (.q (.q .z .z) (.q (.cut ⟨[(2,.o .k),(3,.o .k),(4,.o .k),(5,.o .k),(6,.o .k),(42,.o .b)],[(4,[.k,.k,.k,.k,.k,.k,.k]),(3,[.k,.k,.k]),(2,[.k,.k,.k,.k,.k,.k,.k])],[]⟩ [] .z) (.q (.q .z .z) (.q .z (.q (.q .z .z) .z))))))) (.q .z (.q .z (.q (.q .z (.q (.q .z .z) .z)) (.q .z (.q .z .z)))))))))) tys_ok eqt_ok rfl ⟨d_spec_WorldValid,d_spec_l1In,d_spec_l39Copy,d_spec_l1Has,d_spec_l39Break,d_spec_WorkHeld,d_spec_l39Mend,d_spec_WorkDo,d_spec_Radial,trivial⟩ opn_ok co64 Tryz.func64 rfl Tryz.ntmps64 rfl rfl (fun _=>by kernel_rfl)
def k_spec_l20World:Ctr:=⟨33,[.bx 117 [.sl .ro 5 (.int .u8),.int .i64],.o (.int .i64)],[.g [.int .i64,.row 77 (.p (.int .i64) (.p (.int .i64) (.int .i64))),.row 122 (.p (.int .i64) (.int .i64)),.row 4 .b,.row 4 .b,.row 125 (.p (.int .i64) (.int .i64)),.row 3 (.int .i64)]],true,fun x=>m_spec_l20World x.1 x.2.1 x.2.2⟩
theorem d_spec_l20World:Cok Tryz.prog k_spec_l20World:=cok (op:=opn) (cs:=[k_spec_l20Radial,k_spec_l20Rd_pick,k_spec_l20WorldDeed,k_spec_WorldDo,k_spec_l20Rd_odd]) (rv:=[.cell 4 33]) (crt:=.q .z (.q .z (.q .z (.q (.q .z (.cut ⟨[(0,.o .k),(1,.o .k),(4,.o .k),(8,.o .k)],[(4096,[.k,.i .i64]),(8,[.i .i64,.r 77 (.p (.int .i64) (.p (.int .i64) (.int .i64))),.r 122 (.p (.int .i64) (.int .i64)),.r 4 .b,.r 4 .b,.r 125 (.p (.int .i64) (.int .i64)),.r 3 (.int .i64)]),(4,[.k,.k,.k,.k,.k,.k,.k])],[]⟩ [] (.b (.lp ⟨[(0,.o .k),(1,.o .k),(4,.o .k),(8,.o .k),(9,.o (.i .i64))],[(4096,[.k,.i .i64]),(8,[.i .i64,.r 77 (.p (.int .i64) (.p (.int .i64) (.int .i64))),.r 122 (.p (.int .i64) (.int .i64)),.r 4 .b,.r 4 .b,.r 125 (.p (.int .i64) (.int .i64)),.r 3 (.int .i64)]),(4,[.k,.k,.k,.k,.k,.k,.k])],[]⟩ (.q (.q .z (.q .z .z)) (.q (.b (.q .z (.q .z (.cut ⟨[(0,.o .k),(1,.o .k),(4,.o .k),(8,.o .k),(9,.o .k)],[(4096,[.k,.k]),(8,[.i .i64,.r 77 (.p (.int .i64) (.p (.int .i64) (.int .i64))),.r 122 (.p (.int .i64) (.int .i64)),.r 4 .b,.r 4 .b,.r 125 (.p (.int .i64) (.int .i64)),.r 3 (.int .i64)]),(4,[.k,.k,.k,.k,.k,.k,.k])],[]⟩ [] (.q .z .z))))) .z)))))) (.q (.q .z (.cut ⟨[(4,.o .k),(8,.o .k)],[(4096,[.k,.i .i64]),(8,[.k,.k,.r 122 (.p (.int .i64) (.int .i64)),.r 4 .b,.r 4 .b,.k,.r 3 (.int .i64)]),(4,[.k,.k,.k,.k,.k,.k,.k])],[]⟩ [] (.q (.q .z (.b (.q .z (.cut ⟨[(4,.o .k),(8,.o .k)],[(4096,[.k,.k]),(8,[.k,.k,.r 122 (.p (.int .i64) (.int .i64)),.r 4 .b,.r 4 .b,.k,.r 3 (.int .i64)]),(4,[.k,.k,.k,.k,.k,.k,.k])],[]⟩ [] (.q .z (.q .z (.cut ⟨[(4,.o .k),(8,.o .k)],[(4096,[.k,.k]),(8,[.k,.k,.w 122 (.p (.int .i64) (.int .i64)),.r 4 .b,.r 4 .b,.k,.r 3 (.int .i64)]),(4,[.k,.k,.k,.k,.k,.k,.k])],[]⟩ [] (.q .z (.q .z (.cut ⟨[(4,.o .k),(8,.o .k)],[(4096,[.k,.k]),(8,[.k,.k,.w 122 (.p (.int .i64) (.int .i64)),.r 4 .b,.r 4 .b,.k,.r 3 (.int .i64)]),(4,[.k,.k,.k,.k,.k,.k,.k])],[]⟩ [] (.q (.q .z (.cut ⟨[(4,.o .k),(8,.o .k)],[(4096,[.k,.k]),(8,[.k,.k,.k,.k,.k,.k,.r 3 (.int .i64)]),(4,[.k,.k,.k,.k,.k,.k,.k])],[]⟩ [] (.b (.lp ⟨[(4,.o .k),(8,.o .k),(12,.o (.i .i64))],[(4096,[.k,.k]),(8,[.k,.k,.k,.k,.k,.k,.r 3 (.int .i64)]),(4,[.k,.k,.k,.k,.k,.k,.k])],[]⟩ (.q (.q .z (.q .z .z)) (.q (.b (.q .z (.cut ⟨[(4,.o .k),(8,.o .k),(12,.o .k)],[(4096,[.k,.k]),(8,[.k,.k,.k,.k,.k,.k,.r 3 (.int .i64)]),(4,[.k,.k,.k,.k,.k,.k,.k])],[]⟩ [] (.q .z .z)))) .z)))))) (.q .z (.cut ⟨[(4,.o .k),(8,.o .k)],[(4096,[.k,.k]),(8,[.k,.k,.w 122 (.p (.int .i64) (.int .i64)),.r 4 .b,.r 4 .b,.k,.k]),(4,[.k,.k,.k,.k,.k,.k,.k])],[]⟩ [] (.q (.q .z .z) (.q .z .z))))))))))))))) .z))) (.q .z .z)))))) tys_ok eqt_ok rfl ⟨d_spec_l20Radial,d_spec_l20Rd_pick,d_spec_l20WorldDeed,d_spec_WorldDo,d_spec_l20Rd_odd,trivial⟩ opn_ok co33 Tryz.func33 rfl Tryz.ntmps33 rfl rfl (fun _=>by kernel_rfl)
def k_spec_l20Line:Ctr:=⟨35,[.bx 117 [.sl .ro 5 (.int .u8),.int .i64],.g [.int .i64,.sl .ro 77 (.p (.int .i64) (.p (.int .i64) (.int .i64))),.sl .ro 122 (.p (.int .i64) (.int .i64)),.sl .ro 4 .b,.sl .ro 4 .b,.sl .ro 125 (.p (.int .i64) (.int .i64)),.sl .ro 3 (.int .i64)]],[.o .s],true,fun x=>m_spec_l20Line x.1 x.2.1 x.2.2.1 x.2.2.2.1 x.2.2.2.2.1 x.2.2.2.2.2.1 x.2.2.2.2.2.2.1 x.2.2.2.2.2.2.2.1 x.2.2.2.2.2.2.2.2⟩
theorem d_spec_l20Line:Cok Tryz.prog k_spec_l20Line:=cok (op:=opn) (cs:=[k_spec_l20Rd_pick,k_spec_l1Number]) (rv:=[.tmp 4]) (crt:=.q .z (.q .z (.q .z (.q (.q .z (.cut ⟨[(0,.o .k),(4,.o .k),(6,.o .s)],[(4096,[.k,.i .i64])],[]⟩ [] (.q .z .z))) (.q (.q .z (.b (.q .z (.q (.q .z .z) (.q .z (.q (.q .z .z) .z)))))) (.q .z .z)))))) tys_ok eqt_ok rfl ⟨d_spec_l20Rd_pick,d_spec_l1Number,trivial⟩ opn_ok co35 Tryz.func35 rfl Tryz.ntmps35 rfl rfl (fun _=>by kernel_rfl)
def k_impl_powerValid:Ctr:=⟨143,[.o (.int .i64)],[.o .b],false,fun x=>m_impl_powerValid x⟩
theorem d_impl_powerValid:Cok Tryz.prog k_impl_powerValid:=cok (op:=opn) (cs:=[]) (rv:=[.tmp 2]) (crt:=.q .z (.q .z .z)) tys_ok eqt_ok rfl trivial opn_ok co143 Tryz.func143 rfl Tryz.ntmps143 rfl rfl (fun _=>by kernel_rfl)
def k_impl_BusesValid:Ctr:=⟨69,[.g [.int .i64,.sl .ro 77 (.p (.int .i64) (.p (.int .i64) (.int .i64)))],.o (.sl .ro 122 (.p (.int .i64) (.int .i64)))],[.o .b],false,fun x=>m_impl_BusesValid x.1 x.2.1 x.2.2⟩
theorem d_impl_BusesValid:Cok Tryz.prog k_impl_BusesValid:=cok (op:=opn) (cs:=[k_impl_NetValid,k_impl_powerValid]) (rv:=[.tmp 4]) (crt:=.q .z (.q (.q .z (.q (.q .z .z) .z)) (.q (.q .z (.cut ⟨[(4,.o .k)],[],[]⟩ [.rt] (.b (.lp ⟨[(4,.o .k),(17,.o .k),(18,.o .k),(19,.o (.i .i64))],[],[]⟩ (.q .z (.q (.q .z .z) (.q (.b (.q .z (.q .z (.q (.q .z .z) .z)))) .z))))))) (.q .z .z)))) tys_ok eqt_ok rfl ⟨d_impl_NetValid,d_impl_powerValid,trivial⟩ opn_ok co69 Tryz.func69 rfl Tryz.ntmps69 rfl rfl (fun _=>by kernel_rfl)
def k_slices_Index_impl_Permit_impl_Permit:Ctr:=⟨195,[.o (.sl .ro 125 (.p (.int .i64) (.int .i64))),.g [.int .i64,.int .i64]],[.o (.int .i64)],false,fun x=>m_slices_Index_impl_Permit_impl_Permit x.1 x.2.1 x.2.2⟩
theorem d_slices_Index_impl_Permit_impl_Permit:Cok Tryz.prog k_slices_Index_impl_Permit_impl_Permit:=cok (op:=opn) (cs:=[]) (rv:=[.tmp 4]) (crt:=.q .z (.q (.q .z (.cut ⟨[(4,.o .k)],[],[]⟩ [.rt] (.b (.lp ⟨[(0,.o .k),(3,.o .k),(4,.o .k),(7,.o .k),(8,.o (.i .i64))],[(3,[.k,.k])],[]⟩ (.q .z (.q (.q .z .z) (.q (.b (.q .z (.q .z (.q (.q .z .z) .z)))) .z))))))) (.q .z .z))) tys_ok eqt_ok rfl trivial opn_ok co195 Tryz.func195 rfl Tryz.ntmps195 rfl rfl (fun _=>by kernel_rfl)
def k_slices_Contains_impl_Permit_impl_Permit:Ctr:=⟨144,[.o (.sl .ro 125 (.p (.int .i64) (.int .i64))),.g [.int .i64,.int .i64]],[.o .b],false,fun x=>m_slices_Contains_impl_Permit_impl_Permit x.1 x.2.1 x.2.2⟩
theorem d_slices_Contains_impl_Permit_impl_Permit:Cok Tryz.prog k_slices_Contains_impl_Permit_impl_Permit:=cok (op:=opn) (cs:=[k_slices_Index_impl_Permit_impl_Permit]) (rv:=[.tmp 4]) (crt:=.q .z (.q .z .z)) tys_ok eqt_ok rfl ⟨d_slices_Index_impl_Permit_impl_Permit,trivial⟩ opn_ok co144 Tryz.func144 rfl Tryz.ntmps144 rfl rfl (fun _=>by kernel_rfl)
def k_impl_WorkValid:Ctr:=⟨70,[.g [.sl .ro 4 .b,.sl .ro 4 .b,.sl .ro 125 (.p (.int .i64) (.int .i64))]],[.o .b],false,fun x=>m_impl_WorkValid x.1 x.2.1 x.2.2⟩
theorem d_impl_WorkValid:Cok Tryz.prog k_impl_WorkValid:=cok (op:=opn) (cs:=[k_slices_Contains_impl_Permit_impl_Permit]) (rv:=[.tmp 2]) (crt:=.q .z (.q (.q .z (.q (.q .z .z) .z)) (.q (.q .z (.cut ⟨[(1,.o .k),(2,.o .k)],[(1,[.k,.k,.k])],[]⟩ [.rt] (.b (.lp ⟨[(1,.o .k),(2,.o .k),(33,.o .k),(34,.o (.i .i64))],[(1,[.k,.k,.k])],[]⟩ (.q .z (.q (.q .z .z) (.q (.b (.q .z (.q .z (.q (.q .z .z) .z)))) .z))))))) (.q (.q .z (.cut ⟨[(2,.o .k)],[],[]⟩ [.rt] (.b (.lp ⟨[(1,.o .k),(2,.o .k),(51,.o .k),(52,.o .k),(53,.o (.i .i64))],[(1,[.k,.k,.k])],[]⟩ (.q .z (.q (.q .z .z) (.q (.b (.q .z (.q .z (.q (.q .z .z) .z)))) .z))))))) (.q .z .z))))) tys_ok eqt_ok rfl ⟨d_slices_Contains_impl_Permit_impl_Permit,trivial⟩ opn_ok co70 Tryz.func70 rfl Tryz.ntmps70 rfl rfl (fun _=>by kernel_rfl)
def k_impl_Net_hasLine:Ctr:=⟨45,[.g [.int .i64,.sl .ro 77 (.p (.int .i64) (.p (.int .i64) (.int .i64)))],.o (.int .i64)],[.o .b],false,fun x=>m_impl_Net_hasLine x.1 x.2.1 x.2.2⟩
theorem d_impl_Net_hasLine:Cok Tryz.prog k_impl_Net_hasLine:=cok (op:=opn) (cs:=[]) (rv:=[.tmp 4]) (crt:=.q .z (.q .z .z)) tys_ok eqt_ok rfl trivial opn_ok co45 Tryz.func45 rfl Tryz.ntmps45 rfl rfl (fun _=>by kernel_rfl)
def k_impl_StateValid:Ctr:=⟨109,[.g [.int .i64,.sl .ro 77 (.p (.int .i64) (.p (.int .i64) (.int .i64)))],.o (.sl .ro 4 .b)],[.o .b],false,fun x=>m_impl_StateValid x.1 x.2.1 x.2.2⟩
theorem d_impl_StateValid:Cok Tryz.prog k_impl_StateValid:=cok (op:=opn) (cs:=[k_impl_NetValid]) (rv:=[.tmp 4]) (crt:=.q .z (.q .z .z)) tys_ok eqt_ok rfl ⟨d_impl_NetValid,trivial⟩ opn_ok co109 Tryz.func109 rfl Tryz.ntmps109 rfl rfl (fun _=>by kernel_rfl)
def k_impl_fedValid:Ctr:=⟨44,[.g [.int .i64,.sl .ro 77 (.p (.int .i64) (.p (.int .i64) (.int .i64)))],.o (.sl .ro 4 .b),.o (.sl .ro 122 (.p (.int .i64) (.int .i64)))],[.o .b],false,fun x=>m_impl_fedValid x.1 x.2.1 x.2.2.1 x.2.2.2⟩
theorem d_impl_fedValid:Cok Tryz.prog k_impl_fedValid:=cok (op:=opn) (cs:=[k_impl_StateValid,k_impl_BusesValid]) (rv:=[.tmp 6]) (crt:=.q .z (.q .z .z)) tys_ok eqt_ok rfl ⟨d_impl_StateValid,d_impl_BusesValid,trivial⟩ opn_ok co44 Tryz.func44 rfl Tryz.ntmps44 rfl rfl (fun _=>by kernel_rfl)
def k_impl_newUnion:Ctr:=⟨204,[.o (.int .i64)],[.o (.row 3 (.int .i64))],false,fun x=>m_impl_newUnion x⟩
theorem d_impl_newUnion:Cok Tryz.prog k_impl_newUnion:=cok (op:=opn) (cs:=[]) (rv:=[.tmp 2]) (crt:=.q .z (.q .z (.q (.q .z (.cut ⟨[(2,.o .k),(3,.o (.w 3 (.int .i64)))],[],[]⟩ [] (.b (.lp ⟨[(2,.o .k),(3,.o (.w 3 (.int .i64))),(8,.o .k),(9,.o (.i .i64))],[],[]⟩ (.q .z (.q (.q .z .z) (.q (.b (.q .z .z)) .z))))))) (.q .z .z)))) tys_ok eqt_ok rfl trivial opn_ok co204 Tryz.func204 rfl Tryz.ntmps204 rfl rfl (fun _=>by kernel_rfl)
def k_impl_union_find:Ctr:=⟨170,[.o (.sl .mu 3 (.int .i64)),.o (.int .i64)],[.o (.int .i64)],true,fun x=>m_impl_union_find x.1 x.2⟩
theorem d_impl_union_find:Cok Tryz.prog k_impl_union_find:=cok (op:=opn) (cs:=[]) (rv:=[.tmp 4]) (crt:=.q .z (.q (.cut ⟨[(1,.o (.i .i64)),(4,.o .k)],[],[(0,.r 3 (.int .i64))]⟩ [] (.b (.lp ⟨[(0,.o (.w 3 (.int .i64))),(1,.o (.i .i64)),(4,.o .k)],[],[]⟩ (.q (.q .z (.q .z .z)) (.b (.q .z .z)))))) (.q .z .z))) tys_ok eqt_ok rfl trivial opn_ok co170 Tryz.func170 rfl Tryz.ntmps170 rfl rfl (fun _=>by kernel_rfl)
def k_impl_union_same:Ctr:=⟨206,[.o (.sl .mu 3 (.int .i64)),.o (.int .i64),.o (.int .i64)],[.o .b],true,fun x=>m_impl_union_same x.1 x.2.1 x.2.2⟩
theorem d_impl_union_same:Cok Tryz.prog k_impl_union_same:=cok (op:=opn) (cs:=[k_impl_union_find]) (rv:=[.tmp 6]) (crt:=.q .z (.q .z .z)) tys_ok eqt_ok rfl ⟨d_impl_union_find,trivial⟩ opn_ok co206 Tryz.func206 rfl Tryz.ntmps206 rfl rfl (fun _=>by kernel_rfl)
def k_impl_union_join:Ctr:=⟨205,[.o (.sl .mu 3 (.int .i64)),.o (.int .i64),.o (.int .i64)],[],true,fun x=>m_impl_union_join x.1 x.2.1 x.2.2⟩
theorem d_impl_union_join:Cok Tryz.prog k_impl_union_join:=cok (op:=opn) (cs:=[k_impl_union_find]) (rv:=[]) (crt:=.q .z .z) tys_ok eqt_ok rfl ⟨d_impl_union_find,trivial⟩ opn_ok co205 Tryz.func205 rfl Tryz.ntmps205 rfl rfl (fun _=>by kernel_rfl)
def k_impl_hasCycle:Ctr:=⟨171,[.g [.int .i64,.sl .ro 77 (.p (.int .i64) (.p (.int .i64) (.int .i64)))],.o (.sl .ro 4 .b)],[.o .b],false,fun x=>m_impl_hasCycle x.1 x.2.1 x.2.2⟩
theorem d_impl_hasCycle:Cok Tryz.prog k_impl_hasCycle:=cok (op:=opn) (cs:=[k_impl_newUnion,k_impl_union_same,k_impl_union_join]) (rv:=[.tmp 4]) (crt:=.q .z (.q .z (.q (.q .z (.cut ⟨[(4,.o .k)],[],[]⟩ [.rt] (.b (.lp ⟨[(1,.o .k),(4,.o .k),(5,.o (.w 3 (.int .i64))),(12,.o .k),(13,.o .k),(14,.o (.i .i64))],[],[]⟩ (.q .z (.q (.q .z .z) (.q (.b (.q .z (.q .z (.cut ⟨[(1,.o .k),(4,.o .k),(5,.o (.w 3 (.int .i64))),(12,.o .k),(13,.o .k),(14,.o .k)],[],[]⟩ [.rt] (.q (.q (.q .z (.q (.q .z .z) .z)) .z) .z))))) .z))))))) (.q .z .z)))) tys_ok eqt_ok rfl ⟨d_impl_newUnion,d_impl_union_same,d_impl_union_join,trivial⟩ opn_ok co171 Tryz.func171 rfl Tryz.ntmps171 rfl rfl (fun _=>by kernel_rfl)
def k_impl_Line_other:Ctr:=⟨101,[.g [.int .i64,.int .i64,.int .i64],.o (.int .i64)],[.o (.int .i64)],false,fun x=>m_impl_Line_other x.1 x.2.1 x.2.2.1 x.2.2.2⟩
theorem d_impl_Line_other:Cok Tryz.prog k_impl_Line_other:=cok (op:=opn) (cs:=[]) (rv:=[.tmp 4]) (crt:=.q .z (.q (.q .z (.b (.q .z (.q (.q .z .z) (.q .z (.q (.q .z .z) .z)))))) (.q .z .z))) tys_ok eqt_ok rfl trivial opn_ok co101 Tryz.func101 rfl Tryz.ntmps101 rfl rfl (fun _=>by kernel_rfl)
def k_impl_tree_search:Ctr:=⟨172,[.bx 145 [.int .i64,.sl .ro 77 (.p (.int .i64) (.p (.int .i64) (.int .i64))),.sl .mu 3 (.int .i64),.sl .mu 3 (.int .i64),.sl .mu 3 (.int .i64)],.o (.sl .ro 4 .b),.o (.int .i64)],[],true,fun x=>m_impl_tree_search x.1 x.2.1 x.2.2.1 x.2.2.2.1 x.2.2.2.2.1 x.2.2.2.2.2.1 x.2.2.2.2.2.2⟩
theorem d_impl_tree_search:Cok Tryz.prog k_impl_tree_search:=cok (op:=opn) (cs:=[k_impl_Line_other]) (rv:=[]) (crt:=.q .z (.q .z (.cut ⟨[],[(4096,[.k,.k,.w 3 (.int .i64),.w 3 (.int .i64),.r 3 (.int .i64)])],[]⟩ [] (.b (.lp ⟨[(0,.o .k),(1,.o .k),(2,.o .k),(6,.o (.i .i64))],[(4096,[.k,.k,.w 3 (.int .i64),.w 3 (.int .i64),.r 3 (.int .i64)])],[]⟩ (.q (.q .z (.q .z .z)) (.q (.b (.q .z (.q .z (.cut ⟨[(0,.o .k),(1,.o .k),(2,.o .k),(6,.o .k)],[(4096,[.k,.k,.w 3 (.int .i64),.w 3 (.int .i64),.r 3 (.int .i64)])],[]⟩ [] (.b (.lp ⟨[(0,.o .k),(1,.o .k),(2,.o .k),(6,.o .k),(7,.o .k),(46,.o .k),(47,.o .k),(48,.o (.i .i64))],[(4096,[.k,.k,.w 3 (.int .i64),.w 3 (.int .i64),.r 3 (.int .i64)])],[]⟩ (.q .z (.q (.q .z .z) (.q (.b (.q .z (.q .z (.q .z (.cut ⟨[(0,.o .k),(1,.o .k),(2,.o .k),(6,.o .k),(7,.o .k),(46,.o .k),(47,.o .k),(48,.o .k)],[(4096,[.k,.k,.w 3 (.int .i64),.w 3 (.int .i64),.r 3 (.int .i64)])],[]⟩ [] (.q (.q .z .z) .z)))))) .z))))))))) .z))))))) tys_ok eqt_ok rfl ⟨d_impl_Line_other,trivial⟩ opn_ok co172 Tryz.func172 rfl Tryz.ntmps172 rfl rfl (fun _=>by kernel_rfl)
def k_impl_treeOf:Ctr:=⟨111,[.g [.int .i64,.sl .ro 77 (.p (.int .i64) (.p (.int .i64) (.int .i64)))],.o (.sl .ro 4 .b),.o (.sl .ro 122 (.p (.int .i64) (.int .i64)))],[.g [.int .i64,.al 1,.row 3 (.int .i64),.row 3 (.int .i64),.row 3 (.int .i64)],.o .b],false,fun x=>m_impl_treeOf x.1 x.2.1 x.2.2.1 x.2.2.2⟩
theorem d_impl_treeOf:Cok Tryz.prog k_impl_treeOf:=cok (op:=opn) (cs:=[k_impl_fedValid,k_impl_hasCycle,k_impl_tree_search]) (rv:=[.cell 6 145,.tmp 7]) (crt:=.q .z (.q (.q .z (.q (.q .z .z) .z)) (.q .z (.q (.q .z (.cut ⟨[(1,.o .k),(2,.o .k),(6,.o .k),(7,.o .k),(8,.o .k)],[(8,[.k,.k,.w 3 (.int .i64),.w 3 (.int .i64),.k]),(6,[.k,.k,.k,.k,.k])],[]⟩ [] (.b (.lp ⟨[(1,.o .k),(2,.o .k),(6,.o .k),(7,.o .k),(8,.o .k),(32,.o .k),(33,.o (.i .i64))],[(8,[.k,.k,.w 3 (.int .i64),.w 3 (.int .i64),.k]),(6,[.k,.k,.k,.k,.k])],[]⟩ (.q .z (.q (.q .z .z) (.q (.b (.q .z .z)) .z))))))) (.q (.q .z (.cut ⟨[(6,.o .k),(7,.o .k),(8,.o .k)],[(8,[.i .i64,.k,.r 3 (.int .i64),.r 3 (.int .i64),.r 3 (.int .i64)]),(6,[.k,.k,.k,.k,.k])],[]⟩ [.rt] (.b (.lp ⟨[(1,.o .k),(6,.o .k),(7,.o .k),(8,.o .k),(45,.o .k),(46,.o .k),(47,.o (.i .i64))],[(8,[.i .i64,.k,.r 3 (.int .i64),.r 3 (.int .i64),.r 3 (.int .i64)]),(6,[.k,.k,.k,.k,.k])],[]⟩ (.q .z (.q (.q .z .z) (.q (.cut ⟨[(1,.o .k),(6,.o .k),(7,.o .k),(8,.o .k),(45,.o .k),(46,.o .k),(47,.o .k)],[(8,[.i .i64,.k,.r 3 (.int .i64),.r 3 (.int .i64),.r 3 (.int .i64)]),(6,[.k,.k,.k,.k,.k])],[]⟩ [.rt] (.b (.q .z (.q (.q .z (.q .z .z)) (.q (.q .z (.q (.q .z .z) .z)) (.q .z .z)))))) .z))))))) (.q .z .z)))))) tys_ok eqt_ok rfl ⟨d_impl_fedValid,d_impl_hasCycle,d_impl_tree_search,trivial⟩ opn_ok co111 Tryz.func111 rfl Tryz.ntmps111 rfl rfl (fun _=>by kernel_rfl)
def k_impl_Radial:Ctr:=⟨71,[.g [.int .i64,.sl .ro 77 (.p (.int .i64) (.p (.int .i64) (.int .i64)))],.o (.sl .ro 4 .b),.o (.sl .ro 122 (.p (.int .i64) (.int .i64)))],[.o .b],false,fun x=>m_impl_Radial x.1 x.2.1 x.2.2.1 x.2.2.2⟩
theorem d_impl_Radial:Cok Tryz.prog k_impl_Radial:=cok (op:=opn) (cs:=[k_impl_treeOf]) (rv:=[.tmp 6]) (crt:=.q .z (.q .z (.q .z .z))) tys_ok eqt_ok rfl ⟨d_impl_treeOf,trivial⟩ opn_ok co71 Tryz.func71 rfl Tryz.ntmps71 rfl rfl (fun _=>by kernel_rfl)
def k_impl_WorldValid:Ctr:=⟨19,[.g [.int .i64,.sl .ro 77 (.p (.int .i64) (.p (.int .i64) (.int .i64))),.sl .ro 122 (.p (.int .i64) (.int .i64)),.sl .ro 4 .b,.sl .ro 4 .b,.sl .ro 125 (.p (.int .i64) (.int .i64)),.sl .ro 3 (.int .i64)]],[.o .b],false,fun x=>m_impl_WorldValid x.1 x.2.1 x.2.2.1 x.2.2.2.1 x.2.2.2.2.1 x.2.2.2.2.2.1 x.2.2.2.2.2.2⟩
theorem d_impl_WorldValid:Cok Tryz.prog k_impl_WorldValid:=cok (op:=opn) (cs:=[k_impl_BusesValid,k_impl_WorkValid,k_impl_Net_hasLine,k_impl_Radial]) (rv:=[.tmp 2]) (crt:=.q .z (.q (.q .z (.q (.q .z .z) .z)) (.q (.q .z (.cut ⟨[(1,.o .k),(2,.o .k)],[(1,[.k,.k,.k,.k,.k,.k,.k])],[]⟩ [.rt] (.b (.lp ⟨[(1,.o .k),(2,.o .k),(29,.o .k),(30,.o .k),(31,.o (.i .i64))],[(1,[.k,.k,.k,.k,.k,.k,.k])],[]⟩ (.q .z (.q (.q .z .z) (.q (.b (.q .z (.q .z (.q (.q .z .z) .z)))) .z))))))) (.q .z .z)))) tys_ok eqt_ok rfl ⟨d_impl_BusesValid,d_impl_WorkValid,d_impl_Net_hasLine,d_impl_Radial,trivial⟩ opn_ok co19 Tryz.func19 rfl Tryz.ntmps19 rfl rfl (fun _=>by kernel_rfl)
set_option maxHeartbeats 4000000 in
theorem c_slices_Clone_impl_Line_impl_Line {x0:List (Int×Int×Int)} {A0:Option Addr} {n0 c0:Nat} {w:World} {r:List (Int×Int×Int)} (h0:Rt w 3 eLine A0 n0 c0 x0) (hM : m_slices_Clone_impl_Line_impl_Line x0=some r) :
  Calls Tryz.prog 105 #[.slice A0 n0 c0] w (fun e w'=>∃ (B0:Option Addr) (N0 D0:Nat),e=.returned (.slice B0 N0 D0)∧N0=r.length∧St w w' [.row 77 3 (.slice B0 N0 D0) N0 (r.flatMap eLine)]):=by
 obtain rfl:=h0.len
 unfold m_slices_Clone_impl_Line_impl_Line at hM
 obtain ⟨hk,hM⟩:=chk_ex hM
 replace hk:=apB_t hk
 obtain rfl:=Option.some.inj hM
 refine calls_gw Tryz.func105 Tryz.ntmps105 rfl [(0,.slice A0 x0.length c0)] ⟨rfl,trivial⟩ rfl ?_
 intro a hF
 have S:=St.nil w
 refine wp_seq ?_
 refine wp_region_lit ?_
 refine op_val (v:=.slice none 0 0) rfl rfl hF rfl (run_assign rfl rfl) ?_; clear hF; intro a hF
 refine wpList_nil ?_
 refine wp_seq ?_
 refine wp_seq ?_
 refine wp_region_lit ?_
 refine op_val (v:=.slice A0 x0.length c0) rfl rfl hF rfl (run_move rfl (hF.ev rfl)) ?_; clear hF; intro a hF
 refine op_val (v:=.bool (Option.isNone A0)) rfl rfl hF rfl (run_eqlNil rfl Tryz.underlying23 (hF.ev rfl) rfl) ?_; clear hF; intro a hF
 refine wpList_nil ?_
 cases hc101:(Option.isNone A0)
 ·have hx:=trivial
  refine cond_f hF rfl hc101 ?_
  refine wp_skip ?_
  refine wp_seq ?_
  refine wp_region_lit ?_
  refine op_newrow (cs:=#[]) (size:=3) rfl rfl hF rfl S (run_buildSlice0 rfl Tryz.underlying23 (congrArg Option.isSome sz77)) rfl (Nat.zero_le _) ?_; clear hF S; intro a g102 u hF S
  refine op_val (v:=.slice A0 x0.length c0) rfl rfl hF rfl (run_move rfl (hF.ev rfl)) ?_; clear hF; intro a hF
  have hk105:=hk
  refine op_appendL (lx:=[]) (ly:=x0) rfl rfl hF rfl S rfl (hF.ev rfl) (hF.ev rfl) (i:=0) rfl rfl Tryz.underlying23 inf77 rfl (by decide) (S.rc0 h0.rc).rd rfl eLine_one hk105 (by decide) ?_; clear hF S; intro a B103 d104 u hF S
  refine op_val (v:=.slice B103 ((([]:List (Int×Int×Int))++x0).length) d104) rfl rfl hF rfl (run_assign rfl (hF.ev rfl)) ?_; clear hF; intro a hF
  refine wpList_nil ?_
  refine wp_ret ?_
  repeat with_reducible (first | refine then_ret ?_ | refine in_ret ?_ | refine in_nrm ?_)
  refine ret1_gw (.inl rfl) hF rfl (res_tmp (hF.ev rfl)) ?_
  exact ⟨B103,((([]:List (Int×Int×Int))++x0).length),d104,rfl,rfl,S.sel [0] rfl rfl⟩
 ·have hx:=nil_none h0.rc.rd rfl hc101
  refine cond_t hF rfl hc101 ?_
  refine wp_seq ?_
  refine wp_region_lit ?_
  refine op_val (v:=.slice none 0 0) rfl rfl hF rfl (run_assign rfl rfl) ?_; clear hF; intro a hF
  refine wpList_nil ?_
  refine wp_ret ?_
  repeat with_reducible (first | refine then_ret ?_ | refine in_ret ?_ | refine in_nrm ?_)
  refine ret1_gw (.inl rfl) hF rfl (res_tmp (hF.ev rfl)) ?_
  subst hx
  replace S:=S.nilrow 77 3
  exact ⟨none,0,0,rfl,rfl,S.sel [0] rfl rfl⟩
def k_slices_Clone_impl_Line_impl_Line:Ctr:=⟨105,[.o (.sl .ro 77 (.p (.int .i64) (.p (.int .i64) (.int .i64))))],[.o (.row 77 (.p (.int .i64) (.p (.int .i64) (.int .i64))))],false,fun x=>m_slices_Clone_impl_Line_impl_Line x⟩
theorem d_slices_Clone_impl_Line_impl_Line:Cok Tryz.prog k_slices_Clone_impl_Line_impl_Line:=⟨co105,fun x res hm e w0 w X _ hp hS=>by
 obtain ⟨v,vr,hv,⟨l,hl,hro⟩,_⟩:=hp
 have hl:=(List.head_eq_of_cons_eq hv).trans hl
 injection hl with _ hl
 subst hl
 refine (c_slices_Clone_impl_Line_impl_Line (A0:=e.a 0) (n0:=List.length x) (c0:=e.c 0) (w:=w) ⟨hro w _ hS (fun y hy=>List.mem_append_right _ hy),rfl⟩ hm).mono ?_
 rintro en w' ⟨B,N,D,rfl,hN,S⟩
 subst hN
 exact ⟨[_],[_],rfl,⟨[_],[],[],[_],[],[],rfl,rfl,⟨_,[],_,[],[_],[],rfl,rfl,rfl,⟨res,B,D,rfl,rfl,rfl⟩,rfl,rfl,rfl⟩,⟨rfl,rfl⟩,⟨[],[],[],[],rfl,rfl,⟨rfl,rfl⟩,⟨rfl,rfl⟩⟩⟩,hS.call1 S⟩⟩
set_option maxHeartbeats 4000000 in
theorem c_slices_Clone_impl_Bus_impl_Bus {x0:List (Int×Int)} {A0:Option Addr} {n0 c0:Nat} {w:World} {r:List (Int×Int)} (h0:Rt w 2 eBus A0 n0 c0 x0) (hM : m_slices_Clone_impl_Bus_impl_Bus x0=some r) :
  Calls Tryz.prog 106 #[.slice A0 n0 c0] w (fun e w'=>∃ (B0:Option Addr) (N0 D0:Nat),e=.returned (.slice B0 N0 D0)∧N0=r.length∧St w w' [.row 122 2 (.slice B0 N0 D0) N0 (r.flatMap eBus)]):=by
 obtain rfl:=h0.len
 unfold m_slices_Clone_impl_Bus_impl_Bus at hM
 obtain ⟨hk,hM⟩:=chk_ex hM
 replace hk:=apB_t hk
 obtain rfl:=Option.some.inj hM
 refine calls_gw Tryz.func106 Tryz.ntmps106 rfl [(0,.slice A0 x0.length c0)] ⟨rfl,trivial⟩ rfl ?_
 intro a hF
 have S:=St.nil w
 refine wp_seq ?_
 refine wp_region_lit ?_
 refine op_val (v:=.slice none 0 0) rfl rfl hF rfl (run_assign rfl rfl) ?_; clear hF; intro a hF
 refine wpList_nil ?_
 refine wp_seq ?_
 refine wp_seq ?_
 refine wp_region_lit ?_
 refine op_val (v:=.slice A0 x0.length c0) rfl rfl hF rfl (run_move rfl (hF.ev rfl)) ?_; clear hF; intro a hF
 refine op_val (v:=.bool (Option.isNone A0)) rfl rfl hF rfl (run_eqlNil rfl Tryz.underlying26 (hF.ev rfl) rfl) ?_; clear hF; intro a hF
 refine wpList_nil ?_
 cases hc101:(Option.isNone A0)
 ·have hx:=trivial
  refine cond_f hF rfl hc101 ?_
  refine wp_skip ?_
  refine wp_seq ?_
  refine wp_region_lit ?_
  refine op_newrow (cs:=#[]) (size:=2) rfl rfl hF rfl S (run_buildSlice0 rfl Tryz.underlying26 (congrArg Option.isSome sz122)) rfl (Nat.zero_le _) ?_; clear hF S; intro a g102 u hF S
  refine op_val (v:=.slice A0 x0.length c0) rfl rfl hF rfl (run_move rfl (hF.ev rfl)) ?_; clear hF; intro a hF
  have hk105:=hk
  refine op_appendL (lx:=[]) (ly:=x0) rfl rfl hF rfl S rfl (hF.ev rfl) (hF.ev rfl) (i:=0) rfl rfl Tryz.underlying26 inf122 rfl (by decide) (S.rc0 h0.rc).rd rfl eBus_one hk105 (by decide) ?_; clear hF S; intro a B103 d104 u hF S
  refine op_val (v:=.slice B103 ((([]:List (Int×Int))++x0).length) d104) rfl rfl hF rfl (run_assign rfl (hF.ev rfl)) ?_; clear hF; intro a hF
  refine wpList_nil ?_
  refine wp_ret ?_
  repeat with_reducible (first | refine then_ret ?_ | refine in_ret ?_ | refine in_nrm ?_)
  refine ret1_gw (.inl rfl) hF rfl (res_tmp (hF.ev rfl)) ?_
  exact ⟨B103,((([]:List (Int×Int))++x0).length),d104,rfl,rfl,S.sel [0] rfl rfl⟩
 ·have hx:=nil_none h0.rc.rd rfl hc101
  refine cond_t hF rfl hc101 ?_
  refine wp_seq ?_
  refine wp_region_lit ?_
  refine op_val (v:=.slice none 0 0) rfl rfl hF rfl (run_assign rfl rfl) ?_; clear hF; intro a hF
  refine wpList_nil ?_
  refine wp_ret ?_
  repeat with_reducible (first | refine then_ret ?_ | refine in_ret ?_ | refine in_nrm ?_)
  refine ret1_gw (.inl rfl) hF rfl (res_tmp (hF.ev rfl)) ?_
  subst hx
  replace S:=S.nilrow 122 2
  exact ⟨none,0,0,rfl,rfl,S.sel [0] rfl rfl⟩
def k_slices_Clone_impl_Bus_impl_Bus:Ctr:=⟨106,[.o (.sl .ro 122 (.p (.int .i64) (.int .i64)))],[.o (.row 122 (.p (.int .i64) (.int .i64)))],false,fun x=>m_slices_Clone_impl_Bus_impl_Bus x⟩
theorem d_slices_Clone_impl_Bus_impl_Bus:Cok Tryz.prog k_slices_Clone_impl_Bus_impl_Bus:=⟨co106,fun x res hm e w0 w X _ hp hS=>by
 obtain ⟨v,vr,hv,⟨l,hl,hro⟩,_⟩:=hp
 have hl:=(List.head_eq_of_cons_eq hv).trans hl
 injection hl with _ hl
 subst hl
 refine (c_slices_Clone_impl_Bus_impl_Bus (A0:=e.a 0) (n0:=List.length x) (c0:=e.c 0) (w:=w) ⟨hro w _ hS (fun y hy=>List.mem_append_right _ hy),rfl⟩ hm).mono ?_
 rintro en w' ⟨B,N,D,rfl,hN,S⟩
 subst hN
 exact ⟨[_],[_],rfl,⟨[_],[],[],[_],[],[],rfl,rfl,⟨_,[],_,[],[_],[],rfl,rfl,rfl,⟨res,B,D,rfl,rfl,rfl⟩,rfl,rfl,rfl⟩,⟨rfl,rfl⟩,⟨[],[],[],[],rfl,rfl,⟨rfl,rfl⟩,⟨rfl,rfl⟩⟩⟩,hS.call1 S⟩⟩
set_option maxHeartbeats 4000000 in
theorem c_slices_Clone_bool_bool {x0:List Bool} {A0:Option Addr} {n0 c0:Nat} {w:World} {r:List Bool} (h0:Rt w 1 eB A0 n0 c0 x0) (hM : m_slices_Clone_bool_bool x0=some r) :
  Calls Tryz.prog 114 #[.slice A0 n0 c0] w (fun e w'=>∃ (B0:Option Addr) (N0 D0:Nat),e=.returned (.slice B0 N0 D0)∧N0=r.length∧St w w' [.row 4 1 (.slice B0 N0 D0) N0 (r.flatMap eB)]):=by
 obtain rfl:=h0.len
 unfold m_slices_Clone_bool_bool at hM
 obtain ⟨hk,hM⟩:=chk_ex hM
 replace hk:=apB_t hk
 obtain rfl:=Option.some.inj hM
 refine calls_gw Tryz.func114 Tryz.ntmps114 rfl [(0,.slice A0 x0.length c0)] ⟨rfl,trivial⟩ rfl ?_
 intro a hF
 have S:=St.nil w
 refine wp_seq ?_
 refine wp_region_lit ?_
 refine op_val (v:=.slice none 0 0) rfl rfl hF rfl (run_assign rfl rfl) ?_; clear hF; intro a hF
 refine wpList_nil ?_
 refine wp_seq ?_
 refine wp_seq ?_
 refine wp_region_lit ?_
 refine op_val (v:=.slice A0 x0.length c0) rfl rfl hF rfl (run_move rfl (hF.ev rfl)) ?_; clear hF; intro a hF
 refine op_val (v:=.bool (Option.isNone A0)) rfl rfl hF rfl (run_eqlNil rfl Tryz.underlying27 (hF.ev rfl) rfl) ?_; clear hF; intro a hF
 refine wpList_nil ?_
 cases hc101:(Option.isNone A0)
 ·have hx:=trivial
  refine cond_f hF rfl hc101 ?_
  refine wp_skip ?_
  refine wp_seq ?_
  refine wp_region_lit ?_
  refine op_newrow (cs:=#[]) (size:=1) rfl rfl hF rfl S (run_buildSlice0 rfl Tryz.underlying27 (congrArg Option.isSome sz4)) rfl (Nat.zero_le _) ?_; clear hF S; intro a g102 u hF S
  refine op_val (v:=.slice A0 x0.length c0) rfl rfl hF rfl (run_move rfl (hF.ev rfl)) ?_; clear hF; intro a hF
  have hk105:=hk
  refine op_appendL (lx:=[]) (ly:=x0) rfl rfl hF rfl S rfl (hF.ev rfl) (hF.ev rfl) (i:=0) rfl rfl Tryz.underlying27 inf4 rfl (by decide) (S.rc0 h0.rc).rd rfl eB_one hk105 (by decide) ?_; clear hF S; intro a B103 d104 u hF S
  refine op_val (v:=.slice B103 ((([]:List Bool)++x0).length) d104) rfl rfl hF rfl (run_assign rfl (hF.ev rfl)) ?_; clear hF; intro a hF
  refine wpList_nil ?_
  refine wp_ret ?_
  repeat with_reducible (first | refine then_ret ?_ | refine in_ret ?_ | refine in_nrm ?_)
  refine ret1_gw (.inl rfl) hF rfl (res_tmp (hF.ev rfl)) ?_
  exact ⟨B103,((([]:List Bool)++x0).length),d104,rfl,rfl,S.sel [0] rfl rfl⟩
 ·have hx:=nil_none h0.rc.rd rfl hc101
  refine cond_t hF rfl hc101 ?_
  refine wp_seq ?_
  refine wp_region_lit ?_
  refine op_val (v:=.slice none 0 0) rfl rfl hF rfl (run_assign rfl rfl) ?_; clear hF; intro a hF
  refine wpList_nil ?_
  refine wp_ret ?_
  repeat with_reducible (first | refine then_ret ?_ | refine in_ret ?_ | refine in_nrm ?_)
  refine ret1_gw (.inl rfl) hF rfl (res_tmp (hF.ev rfl)) ?_
  subst hx
  replace S:=S.nilrow 4 1
  exact ⟨none,0,0,rfl,rfl,S.sel [0] rfl rfl⟩
def k_slices_Clone_bool_bool:Ctr:=⟨114,[.o (.sl .ro 4 .b)],[.o (.row 4 .b)],false,fun x=>m_slices_Clone_bool_bool x⟩
theorem d_slices_Clone_bool_bool:Cok Tryz.prog k_slices_Clone_bool_bool:=⟨co114,fun x res hm e w0 w X _ hp hS=>by
 obtain ⟨v,vr,hv,⟨l,hl,hro⟩,_⟩:=hp
 have hl:=(List.head_eq_of_cons_eq hv).trans hl
 injection hl with _ hl
 subst hl
 refine (c_slices_Clone_bool_bool (A0:=e.a 0) (n0:=List.length x) (c0:=e.c 0) (w:=w) ⟨hro w _ hS (fun y hy=>List.mem_append_right _ hy),rfl⟩ hm).mono ?_
 rintro en w' ⟨B,N,D,rfl,hN,S⟩
 subst hN
 exact ⟨[_],[_],rfl,⟨[_],[],[],[_],[],[],rfl,rfl,⟨_,[],_,[],[_],[],rfl,rfl,rfl,⟨res,B,D,rfl,rfl,rfl⟩,rfl,rfl,rfl⟩,⟨rfl,rfl⟩,⟨[],[],[],[],rfl,rfl,⟨rfl,rfl⟩,⟨rfl,rfl⟩⟩⟩,hS.call1 S⟩⟩
set_option maxHeartbeats 4000000 in
theorem c_slices_Clone_impl_Permit_impl_Permit {x0:List (Int×Int)} {A0:Option Addr} {n0 c0:Nat} {w:World} {r:List (Int×Int)} (h0:Rt w 2 ePermit A0 n0 c0 x0) (hM : m_slices_Clone_impl_Permit_impl_Permit x0=some r) :
  Calls Tryz.prog 168 #[.slice A0 n0 c0] w (fun e w'=>∃ (B0:Option Addr) (N0 D0:Nat),e=.returned (.slice B0 N0 D0)∧N0=r.length∧St w w' [.row 125 2 (.slice B0 N0 D0) N0 (r.flatMap ePermit)]):=by
 obtain rfl:=h0.len
 unfold m_slices_Clone_impl_Permit_impl_Permit at hM
 obtain ⟨hk,hM⟩:=chk_ex hM
 replace hk:=apB_t hk
 obtain rfl:=Option.some.inj hM
 refine calls_gw Tryz.func168 Tryz.ntmps168 rfl [(0,.slice A0 x0.length c0)] ⟨rfl,trivial⟩ rfl ?_
 intro a hF
 have S:=St.nil w
 refine wp_seq ?_
 refine wp_region_lit ?_
 refine op_val (v:=.slice none 0 0) rfl rfl hF rfl (run_assign rfl rfl) ?_; clear hF; intro a hF
 refine wpList_nil ?_
 refine wp_seq ?_
 refine wp_seq ?_
 refine wp_region_lit ?_
 refine op_val (v:=.slice A0 x0.length c0) rfl rfl hF rfl (run_move rfl (hF.ev rfl)) ?_; clear hF; intro a hF
 refine op_val (v:=.bool (Option.isNone A0)) rfl rfl hF rfl (run_eqlNil rfl Tryz.underlying28 (hF.ev rfl) rfl) ?_; clear hF; intro a hF
 refine wpList_nil ?_
 cases hc101:(Option.isNone A0)
 ·have hx:=trivial
  refine cond_f hF rfl hc101 ?_
  refine wp_skip ?_
  refine wp_seq ?_
  refine wp_region_lit ?_
  refine op_newrow (cs:=#[]) (size:=2) rfl rfl hF rfl S (run_buildSlice0 rfl Tryz.underlying28 (congrArg Option.isSome sz125)) rfl (Nat.zero_le _) ?_; clear hF S; intro a g102 u hF S
  refine op_val (v:=.slice A0 x0.length c0) rfl rfl hF rfl (run_move rfl (hF.ev rfl)) ?_; clear hF; intro a hF
  have hk105:=hk
  refine op_appendL (lx:=[]) (ly:=x0) rfl rfl hF rfl S rfl (hF.ev rfl) (hF.ev rfl) (i:=0) rfl rfl Tryz.underlying28 inf125 rfl (by decide) (S.rc0 h0.rc).rd rfl ePermit_one hk105 (by decide) ?_; clear hF S; intro a B103 d104 u hF S
  refine op_val (v:=.slice B103 ((([]:List (Int×Int))++x0).length) d104) rfl rfl hF rfl (run_assign rfl (hF.ev rfl)) ?_; clear hF; intro a hF
  refine wpList_nil ?_
  refine wp_ret ?_
  repeat with_reducible (first | refine then_ret ?_ | refine in_ret ?_ | refine in_nrm ?_)
  refine ret1_gw (.inl rfl) hF rfl (res_tmp (hF.ev rfl)) ?_
  exact ⟨B103,((([]:List (Int×Int))++x0).length),d104,rfl,rfl,S.sel [0] rfl rfl⟩
 ·have hx:=nil_none h0.rc.rd rfl hc101
  refine cond_t hF rfl hc101 ?_
  refine wp_seq ?_
  refine wp_region_lit ?_
  refine op_val (v:=.slice none 0 0) rfl rfl hF rfl (run_assign rfl rfl) ?_; clear hF; intro a hF
  refine wpList_nil ?_
  refine wp_ret ?_
  repeat with_reducible (first | refine then_ret ?_ | refine in_ret ?_ | refine in_nrm ?_)
  refine ret1_gw (.inl rfl) hF rfl (res_tmp (hF.ev rfl)) ?_
  subst hx
  replace S:=S.nilrow 125 2
  exact ⟨none,0,0,rfl,rfl,S.sel [0] rfl rfl⟩
def k_slices_Clone_impl_Permit_impl_Permit:Ctr:=⟨168,[.o (.sl .ro 125 (.p (.int .i64) (.int .i64)))],[.o (.row 125 (.p (.int .i64) (.int .i64)))],false,fun x=>m_slices_Clone_impl_Permit_impl_Permit x⟩
theorem d_slices_Clone_impl_Permit_impl_Permit:Cok Tryz.prog k_slices_Clone_impl_Permit_impl_Permit:=⟨co168,fun x res hm e w0 w X _ hp hS=>by
 obtain ⟨v,vr,hv,⟨l,hl,hro⟩,_⟩:=hp
 have hl:=(List.head_eq_of_cons_eq hv).trans hl
 injection hl with _ hl
 subst hl
 refine (c_slices_Clone_impl_Permit_impl_Permit (A0:=e.a 0) (n0:=List.length x) (c0:=e.c 0) (w:=w) ⟨hro w _ hS (fun y hy=>List.mem_append_right _ hy),rfl⟩ hm).mono ?_
 rintro en w' ⟨B,N,D,rfl,hN,S⟩
 subst hN
 exact ⟨[_],[_],rfl,⟨[_],[],[],[_],[],[],rfl,rfl,⟨_,[],_,[],[_],[],rfl,rfl,rfl,⟨res,B,D,rfl,rfl,rfl⟩,rfl,rfl,rfl⟩,⟨rfl,rfl⟩,⟨[],[],[],[],rfl,rfl,⟨rfl,rfl⟩,⟨rfl,rfl⟩⟩⟩,hS.call1 S⟩⟩
def k_impl_Work_clone:Ctr:=⟨107,[.g [.sl .ro 4 .b,.sl .ro 4 .b,.sl .ro 125 (.p (.int .i64) (.int .i64))]],[.g [.row 4 .b,.row 4 .b,.row 125 (.p (.int .i64) (.int .i64))]],false,fun x=>m_impl_Work_clone x.1 x.2.1 x.2.2⟩
theorem d_impl_Work_clone:Cok Tryz.prog k_impl_Work_clone:=cok (op:=opn) (cs:=[k_slices_Clone_bool_bool,k_slices_Clone_impl_Permit_impl_Permit]) (rv:=[.cell 2 30]) (crt:=.q .z (.q .z .z)) tys_ok eqt_ok rfl ⟨d_slices_Clone_bool_bool,d_slices_Clone_impl_Permit_impl_Permit,trivial⟩ opn_ok co107 Tryz.func107 rfl Tryz.ntmps107 rfl rfl (fun _=>by kernel_rfl)
set_option maxHeartbeats 4000000 in
theorem c_slices_Clone_int_int {x0:List Int} {A0:Option Addr} {n0 c0:Nat} {w:World} {r:List Int} (h0:Rt w 1 eI A0 n0 c0 x0) (hM : m_slices_Clone_int_int x0=some r) :
  Calls Tryz.prog 108 #[.slice A0 n0 c0] w (fun e w'=>∃ (B0:Option Addr) (N0 D0:Nat),e=.returned (.slice B0 N0 D0)∧N0=r.length∧St w w' [.row 3 1 (.slice B0 N0 D0) N0 (r.flatMap eI)]):=by
 obtain rfl:=h0.len
 unfold m_slices_Clone_int_int at hM
 obtain ⟨hk,hM⟩:=chk_ex hM
 replace hk:=apB_t hk
 obtain rfl:=Option.some.inj hM
 refine calls_gw Tryz.func108 Tryz.ntmps108 rfl [(0,.slice A0 x0.length c0)] ⟨rfl,trivial⟩ rfl ?_
 intro a hF
 have S:=St.nil w
 refine wp_seq ?_
 refine wp_region_lit ?_
 refine op_val (v:=.slice none 0 0) rfl rfl hF rfl (run_assign rfl rfl) ?_; clear hF; intro a hF
 refine wpList_nil ?_
 refine wp_seq ?_
 refine wp_seq ?_
 refine wp_region_lit ?_
 refine op_val (v:=.slice A0 x0.length c0) rfl rfl hF rfl (run_move rfl (hF.ev rfl)) ?_; clear hF; intro a hF
 refine op_val (v:=.bool (Option.isNone A0)) rfl rfl hF rfl (run_eqlNil rfl Tryz.underlying31 (hF.ev rfl) rfl) ?_; clear hF; intro a hF
 refine wpList_nil ?_
 cases hc101:(Option.isNone A0)
 ·have hx:=trivial
  refine cond_f hF rfl hc101 ?_
  refine wp_skip ?_
  refine wp_seq ?_
  refine wp_region_lit ?_
  refine op_newrow (cs:=#[]) (size:=1) rfl rfl hF rfl S (run_buildSlice0 rfl Tryz.underlying31 (congrArg Option.isSome sz3)) rfl (Nat.zero_le _) ?_; clear hF S; intro a g102 u hF S
  refine op_val (v:=.slice A0 x0.length c0) rfl rfl hF rfl (run_move rfl (hF.ev rfl)) ?_; clear hF; intro a hF
  have hk105:=hk
  refine op_appendL (lx:=[]) (ly:=x0) rfl rfl hF rfl S rfl (hF.ev rfl) (hF.ev rfl) (i:=0) rfl rfl Tryz.underlying31 inf3 rfl (by decide) (S.rc0 h0.rc).rd rfl eI_one hk105 (by decide) ?_; clear hF S; intro a B103 d104 u hF S
  refine op_val (v:=.slice B103 ((([]:List Int)++x0).length) d104) rfl rfl hF rfl (run_assign rfl (hF.ev rfl)) ?_; clear hF; intro a hF
  refine wpList_nil ?_
  refine wp_ret ?_
  repeat with_reducible (first | refine then_ret ?_ | refine in_ret ?_ | refine in_nrm ?_)
  refine ret1_gw (.inl rfl) hF rfl (res_tmp (hF.ev rfl)) ?_
  exact ⟨B103,((([]:List Int)++x0).length),d104,rfl,rfl,S.sel [0] rfl rfl⟩
 ·have hx:=nil_none h0.rc.rd rfl hc101
  refine cond_t hF rfl hc101 ?_
  refine wp_seq ?_
  refine wp_region_lit ?_
  refine op_val (v:=.slice none 0 0) rfl rfl hF rfl (run_assign rfl rfl) ?_; clear hF; intro a hF
  refine wpList_nil ?_
  refine wp_ret ?_
  repeat with_reducible (first | refine then_ret ?_ | refine in_ret ?_ | refine in_nrm ?_)
  refine ret1_gw (.inl rfl) hF rfl (res_tmp (hF.ev rfl)) ?_
  subst hx
  replace S:=S.nilrow 3 1
  exact ⟨none,0,0,rfl,rfl,S.sel [0] rfl rfl⟩
def k_slices_Clone_int_int:Ctr:=⟨108,[.o (.sl .ro 3 (.int .i64))],[.o (.row 3 (.int .i64))],false,fun x=>m_slices_Clone_int_int x⟩
theorem d_slices_Clone_int_int:Cok Tryz.prog k_slices_Clone_int_int:=⟨co108,fun x res hm e w0 w X _ hp hS=>by
 obtain ⟨v,vr,hv,⟨l,hl,hro⟩,_⟩:=hp
 have hl:=(List.head_eq_of_cons_eq hv).trans hl
 injection hl with _ hl
 subst hl
 refine (c_slices_Clone_int_int (A0:=e.a 0) (n0:=List.length x) (c0:=e.c 0) (w:=w) ⟨hro w _ hS (fun y hy=>List.mem_append_right _ hy),rfl⟩ hm).mono ?_
 rintro en w' ⟨B,N,D,rfl,hN,S⟩
 subst hN
 exact ⟨[_],[_],rfl,⟨[_],[],[],[_],[],[],rfl,rfl,⟨_,[],_,[],[_],[],rfl,rfl,rfl,⟨res,B,D,rfl,rfl,rfl⟩,rfl,rfl,rfl⟩,⟨rfl,rfl⟩,⟨[],[],[],[],rfl,rfl,⟨rfl,rfl⟩,⟨rfl,rfl⟩⟩⟩,hS.call1 S⟩⟩
def k_impl_World_clone:Ctr:=⟨43,[.g [.int .i64,.sl .ro 77 (.p (.int .i64) (.p (.int .i64) (.int .i64))),.sl .ro 122 (.p (.int .i64) (.int .i64)),.sl .ro 4 .b,.sl .ro 4 .b,.sl .ro 125 (.p (.int .i64) (.int .i64)),.sl .ro 3 (.int .i64)]],[.g [.int .i64,.row 77 (.p (.int .i64) (.p (.int .i64) (.int .i64))),.row 122 (.p (.int .i64) (.int .i64)),.row 4 .b,.row 4 .b,.row 125 (.p (.int .i64) (.int .i64)),.row 3 (.int .i64)]],false,fun x=>m_impl_World_clone x.1 x.2.1 x.2.2.1 x.2.2.2.1 x.2.2.2.2.1 x.2.2.2.2.2.1 x.2.2.2.2.2.2⟩
theorem d_impl_World_clone:Cok Tryz.prog k_impl_World_clone:=cok (op:=opn) (cs:=[k_slices_Clone_impl_Line_impl_Line,k_slices_Clone_impl_Bus_impl_Bus,k_impl_Work_clone,k_slices_Clone_int_int]) (rv:=[.cell 2 33]) (crt:=.q .z (.q .z .z)) tys_ok eqt_ok rfl ⟨d_slices_Clone_impl_Line_impl_Line,d_slices_Clone_impl_Bus_impl_Bus,d_impl_Work_clone,d_slices_Clone_int_int,trivial⟩ opn_ok co43 Tryz.func43 rfl Tryz.ntmps43 rfl rfl (fun _=>by kernel_rfl)
def k_cmp_isNaN_int:Ctr:=⟨232,[.o (.int .i64)],[.o .b],false,fun x=>m_cmp_isNaN_int x⟩
theorem d_cmp_isNaN_int:Cok Tryz.prog k_cmp_isNaN_int:=cok (op:=opn) (cs:=[]) (rv:=[.tmp 2]) (crt:=.q .z (.q .z .z)) tys_ok eqt_ok rfl trivial opn_ok co232 Tryz.func232 rfl Tryz.ntmps232 rfl rfl (fun _=>by kernel_rfl)
def k_cmp_Less_int:Ctr:=⟨212,[.o (.int .i64),.o (.int .i64)],[.o .b],false,fun x=>m_cmp_Less_int x.1 x.2⟩
theorem d_cmp_Less_int:Cok Tryz.prog k_cmp_Less_int:=cok (op:=opn) (cs:=[k_cmp_isNaN_int]) (rv:=[.tmp 4]) (crt:=.q .z (.q .z .z)) tys_ok eqt_ok rfl ⟨d_cmp_isNaN_int,trivial⟩ opn_ok co212 Tryz.func212 rfl Tryz.ntmps212 rfl rfl (fun _=>by kernel_rfl)
def k_slices_isNaN_int:Ctr:=⟨213,[.o (.int .i64)],[.o .b],false,fun x=>m_slices_isNaN_int x⟩
theorem d_slices_isNaN_int:Cok Tryz.prog k_slices_isNaN_int:=cok (op:=opn) (cs:=[]) (rv:=[.tmp 2]) (crt:=.q .z (.q .z .z)) tys_ok eqt_ok rfl trivial opn_ok co213 Tryz.func213 rfl Tryz.ntmps213 rfl rfl (fun _=>by kernel_rfl)
def k_slices_BinarySearch_int_int:Ctr:=⟨180,[.o (.sl .ro 3 (.int .i64)),.o (.int .i64)],[.o (.int .i64),.o .b],false,fun x=>m_slices_BinarySearch_int_int x.1 x.2⟩
theorem d_slices_BinarySearch_int_int:Cok Tryz.prog k_slices_BinarySearch_int_int:=cok (op:=opn) (cs:=[k_cmp_Less_int,k_slices_isNaN_int]) (rv:=[.tmp 4,.tmp 5]) (crt:=.q .z (.q .z (.q .z (.q (.cut ⟨[(0,.o .k),(1,.o .k),(4,.o .k),(5,.o .k),(6,.o .k),(7,.o (.i .i64))],[],[]⟩ [] (.b (.lp ⟨[(0,.o .k),(1,.o .k),(4,.o .k),(5,.o .k),(6,.o .k),(7,.o (.i .i64)),(8,.o (.i .i64))],[],[]⟩ (.q (.q .z (.q .z .z)) (.b (.q .z (.q .z (.cut ⟨[(0,.o .k),(1,.o .k),(4,.o .k),(5,.o .k),(6,.o .k),(7,.o (.i .i64)),(8,.o (.i .i64))],[],[]⟩ [] (.q .z .z))))))))) (.q .z .z))))) tys_ok eqt_ok rfl ⟨d_cmp_Less_int,d_slices_isNaN_int,trivial⟩ opn_ok co180 Tryz.func180 rfl Tryz.ntmps180 rfl rfl (fun _=>by kernel_rfl)
set_option maxHeartbeats 4000000 in
theorem c_slices_Delete_int_int {x0:List Int} {x1:Int} {x2:Int} {A0:Option Addr} {n0 c0:Nat} {w:World} {r:List Int} {w0:World} {X:List Asn} (h0 : n0=x0.length) (S:St w0 w (Asn.row 3 1 (.slice A0 n0 c0) n0 (x0.flatMap eI) :: X)) (hM : m_slices_Delete_int_int x0 x1 x2=some r) :
  Calls Tryz.prog 182 #[.slice A0 n0 c0,.int .i64 x1,.int .i64 x2] w (fun e w'=>∃ (B0:Option Addr) (N0 D0:Nat),e=.returned (.slice B0 N0 D0)∧N0=r.length∧St w0 w' (Asn.row 3 1 (.slice B0 N0 D0) N0 (r.flatMap eI) :: X)):=by
 obtain rfl:=h0
 unfold m_slices_Delete_int_int at hM
 refine calls_gw Tryz.func182 Tryz.ntmps182 rfl [(0,.slice A0 x0.length c0),(1,.int .i64 x1),(2,.int .i64 x2)] ⟨rfl,rfl,rfl,trivial⟩ rfl ?_
 intro a hF
 refine wp_seq ?_
 refine wp_region_lit ?_
 refine op_val (v:=.slice none 0 0) rfl rfl hF rfl (run_assign rfl rfl) ?_; clear hF; intro a hF
 refine wpList_nil ?_
 refine wp_seq ?_
 refine wp_region_lit ?_
 refine op_val (v:=.slice A0 x0.length c0) rfl rfl hF rfl (run_move rfl (hF.ev rfl)) ?_; clear hF; intro a hF
 refine op_val (v:=.int .i64 x1) rfl rfl hF rfl (run_move rfl (hF.ev rfl)) ?_; clear hF; intro a hF
 refine op_val (v:=.int .i64 x2) rfl rfl hF rfl (run_move rfl (hF.ev rfl)) ?_; clear hF; intro a hF
 refine op_val (v:=.slice A0 x0.length c0) rfl rfl hF rfl (run_move rfl (hF.ev rfl)) ?_; clear hF; intro a hF
 refine op_val (v:=.int .i64 (x0.length:Int)) rfl rfl hF rfl (run_lenL rfl rfl Tryz.underlying31 (hF.ev rfl)) ?_; clear hF; intro a hF
 obtain ⟨hk101,hM⟩:=chk_ex hM
 replace hk101:=slB_t hk101
 refine op_val (v:=.slice (subA ((x0.length:Int).toNat) x1.toNat 1 A0) (x2.toNat - x1.toNat) ((x0.length:Int).toNat - x1.toNat)) rfl rfl hF rfl (run_slice3 rfl Tryz.underlying31 sz3 (hF.ev rfl) (hF.ev rfl) (hF.ev rfl) (hF.ev rfl) hk101 (Int.ofNat_le.2 (S.rc 0 rfl).cap)) ?_; clear hF; intro a hF
 refine wpList_nil ?_
 refine wp_seq ?_
 refine wp_seq ?_
 refine wp_region_lit ?_
 refine op_val (v:=.int .i64 x1) rfl rfl hF rfl (run_move rfl (hF.ev rfl)) ?_; clear hF; intro a hF
 refine op_val (v:=.int .i64 x2) rfl rfl hF rfl (run_move rfl (hF.ev rfl)) ?_; clear hF; intro a hF
 refine op_val (v:=.bool (x1 == x2)) rfl rfl hF rfl (run_eql (hF.ev rfl) (hF.ev rfl) rfl) ?_; clear hF; intro a hF
 refine wpList_nil ?_
 cases hc102:(x1 == x2)
 ·replace hM:=bif_f hc102 hM
  refine cond_f hF rfl hc102 ?_
  refine wp_skip ?_
  refine wp_seq ?_
  refine wp_region_lit ?_
  refine op_val (v:=.slice A0 x0.length c0) rfl rfl hF rfl (run_move rfl (hF.ev rfl)) ?_; clear hF; intro a hF
  refine op_val (v:=.int .i64 (x0.length:Int)) rfl rfl hF rfl (run_lenL rfl rfl Tryz.underlying31 (hF.ev rfl)) ?_; clear hF; intro a hF
  refine op_val (v:=.int .i64 (x0.length:Int)) rfl rfl hF rfl (run_assign rfl (hF.ev rfl)) ?_; clear hF; intro a hF
  refine wpList_nil ?_
  refine wp_seq ?_
  obtain ⟨hk103,hM⟩:=chk_ex hM
  replace hk103:=slB_t hk103
  obtain ⟨hk104,hM⟩:=chk_ex hM
  replace hk104:=slB_t hk104
  obtain ⟨hk105,hM⟩:=chk_ex hM
  replace hk105:=apB_t hk105
  have hp106:=(S.rc 0 rfl).cap
  have hq107:=del_len (l:=x0) (p:=x1) (q:=x2) rfl (by omega)
  refine region_gw (D:=[20,21,22,23,24,25,26,0]) (Lr:=(X)) (deps:=(fun | 0=>[20] | 1=>[21] | 2=>[22] | 3=>[23] | 4=>[24] | 5=>[25] | 6=>[26] | 7=>[0] | _=>[])) (rd:=(fun _=>[])) (zr:=(fun | 2=>[6] | 5=>[6] | _=>[]))
   (φ:=fun i vs=>match i,vs with | 0,[v20]=>v20=.slice A0 x0.length c0 | 1,[v21]=>v21=.int .i64 x1 | 2,[v22]=>v22=.slice (subA c0 ((0:Int).toNat) 1 A0) ((subL x0 0 x1).length) (c0 - (0:Int).toNat) | 3,[v23]=>v23=.slice A0 x0.length c0 | 4,[v24]=>v24=.int .i64 x2 | 5,[v25]=>v25=.slice (subA c0 x2.toNat 1 A0) ((subL x0 x2 (x0.length:Int)).length) (c0 - x2.toNat) | 6,[v26]=>v26=.slice A0 (((subL x0 0 x1)++(subL x0 x2 (x0.length:Int))).length) c0 | 7,[v0]=>v0=.slice A0 (((subL x0 0 x1)++(subL x0 x2 (x0.length:Int))).length) c0 | _,_=>True)
   (C:=fun i vs=>match i,vs with | 6,[v26]=>[.row 3 1 (.slice A0 (((subL x0 0 x1)++(subL x0 x2 (x0.length:Int))).length) c0) (((subL x0 0 x1)++(subL x0 x2 (x0.length:Int))).length) (((subL x0 0 x1)++(subL x0 x2 (x0.length:Int))).flatMap eI)] | _,_=>[])
   (κ:=(fun _=>none)) (Z:=(fun | 6=>[.row 3 1 (.slice A0 x0.length c0) x0.length (x0.flatMap eI)] | _=>[])) mixed hF (by kernel_rfl) (show St w0 _ (Asn.row 3 1 (.slice A0 x0.length c0) x0.length (x0.flatMap eI) :: X) from S.selT (M:=[.row 3 1 (.slice A0 x0.length c0) x0.length (x0.flatMap eI)]) 1 [0] rfl rfl rfl) ?_ ?_
  ·refine ⟨?_,?_,?_,?_,?_,?_,?_,?_,trivial⟩
   ·intro a u X' hB hu hp hr hz hl S
    replace S:St w0 u ([]++X'):=S
    exact .inl ⟨rfl,.slice A0 x0.length c0,u,(run_move rfl (hF.evU (hu 7 0 rfl rfl) rfl)),rfl,S⟩
   ·intro a u X' hB hu hp hr hz hl S
    replace S:St w0 u ([]++X'):=S
    exact .inl ⟨rfl,.int .i64 x1,u,(run_move rfl (hF.evB hB rfl rfl)),rfl,S⟩
   ·intro a u X' hB hu hp hr hz hl S
    replace S:St w0 u ([]++X'):=S
    have e20 : sl a 20=.slice A0 x0.length c0:=hp 0 rfl
    have e21 : sl a 21=.int .i64 x1:=hp 1 rfl
    exact .inl ⟨rfl,.slice (subA c0 ((0:Int).toNat) 1 A0) ((subL x0 0 x1).length) (c0 - (0:Int).toNat),u,(run_sliceH (l:=x0) rfl Tryz.underlying31 sz3 (ev_sl e20) (ev_sl e21) hk103 rfl (own_rc (show Ow _ _ _ _ _ _ from S.mem (List.mem_append_right _ (hz 6 (List.mem_of_getElem? (i:=0) rfl) _ (List.mem_of_getElem? (i:=0) rfl))))).cap),rfl,S⟩
   ·intro a u X' hB hu hp hr hz hl S
    replace S:St w0 u ([]++X'):=S
    exact .inl ⟨rfl,.slice A0 x0.length c0,u,(run_move rfl (hF.evU (hu 7 0 rfl rfl) rfl)),rfl,S⟩
   ·intro a u X' hB hu hp hr hz hl S
    replace S:St w0 u ([]++X'):=S
    exact .inl ⟨rfl,.int .i64 x2,u,(run_move rfl (hF.evB hB rfl rfl)),rfl,S⟩
   ·intro a u X' hB hu hp hr hz hl S
    replace S:St w0 u ([]++X'):=S
    have e23 : sl a 23=.slice A0 x0.length c0:=hp 3 rfl
    have e24 : sl a 24=.int .i64 x2:=hp 4 rfl
    exact .inl ⟨rfl,.slice (subA c0 x2.toNat 1 A0) ((subL x0 x2 (x0.length:Int)).length) (c0 - x2.toNat),u,(run_slicefrom (l:=x0) rfl Tryz.underlying31 sz3 (ev_sl e23) (ev_sl e24) hk104 rfl (own_rc (show Ow _ _ _ _ _ _ from S.mem (List.mem_append_right _ (hz 6 (List.mem_of_getElem? (i:=0) rfl) _ (List.mem_of_getElem? (i:=0) rfl))))).cap),rfl,S⟩
   ·intro a u X' hB hu hp hr hz hl S
    replace S:St w0 u ([.row 3 1 (.slice A0 x0.length c0) x0.length (x0.flatMap eI)]++X'):=S
    have e22 : sl a 22=.slice (subA c0 ((0:Int).toNat) 1 A0) ((subL x0 0 x1).length) (c0 - (0:Int).toNat):=hp 2 rfl
    have e25 : sl a 25=.slice (subA c0 x2.toNat 1 A0) ((subL x0 x2 (x0.length:Int)).length) (c0 - x2.toNat):=hp 5 rfl
    obtain ⟨w',hrun,S'⟩:=S.delrow (i:=0) (P:=Tryz.prog) (ty:=31) (p:=x1) (q:=x2) rfl rfl eI_len eI_one Tryz.underlying31 sz3 (by omega) (by omega) (by omega)
    exact .inl ⟨rfl,_,w',run_append rfl (ev_sl e22) (ev_sl e25) hrun,rfl,S'⟩
   ·intro a u X' hB hu hp hr hz hl S
    replace S:St w0 u ([]++X'):=S
    have e26 : sl a 26=.slice A0 (((subL x0 0 x1)++(subL x0 x2 (x0.length:Int))).length) c0:=hp 6 rfl
    exact .inl ⟨rfl,.slice A0 (((subL x0 0 x1)++(subL x0 x2 (x0.length:Int))).length) c0,u,(run_assign rfl (ev_sl e26)),rfl,S⟩
  ·intro a u hB hp S
   obtain ⟨q0,q1,q2,q3,q4,q5,q6,q7,_⟩:=hp
   have e20 : sl a 20=.slice A0 x0.length c0:=q0
   have e21 : sl a 21=.int .i64 x1:=q1
   have e22 : sl a 22=.slice (subA c0 ((0:Int).toNat) 1 A0) ((subL x0 0 x1).length) (c0 - (0:Int).toNat):=q2
   have e23 : sl a 23=.slice A0 x0.length c0:=q3
   have e24 : sl a 24=.int .i64 x2:=q4
   have e25 : sl a 25=.slice (subA c0 x2.toNat 1 A0) ((subL x0 x2 (x0.length:Int)).length) (c0 - x2.toNat):=q5
   have e26 : sl a 26=.slice A0 (((subL x0 0 x1)++(subL x0 x2 (x0.length:Int))).length) c0:=q6
   have e0 : sl a 0=.slice A0 (((subL x0 0 x1)++(subL x0 x2 (x0.length:Int))).length) c0:=q7
   replace S:St w0 u (Asn.row 3 1 (.slice A0 (((subL x0 0 x1)++(subL x0 x2 (x0.length:Int))).length) c0) (((subL x0 0 x1)++(subL x0 x2 (x0.length:Int))).length) (((subL x0 0 x1)++(subL x0 x2 (x0.length:Int))).flatMap eI) :: X):=S
   clear q0 q1 q2 q3 q4 q5 q6 q7
   have hF:=hF.region hB [(20,.slice A0 x0.length c0),(21,.int .i64 x1),(22,.slice (subA c0 ((0:Int).toNat) 1 A0) ((subL x0 0 x1).length) (c0 - (0:Int).toNat)),(23,.slice A0 x0.length c0),(24,.int .i64 x2),(25,.slice (subA c0 x2.toNat 1 A0) ((subL x0 x2 (x0.length:Int)).length) (c0 - x2.toNat)),(26,.slice A0 (((subL x0 0 x1)++(subL x0 x2 (x0.length:Int))).length) c0),(0,.slice A0 (((subL x0 0 x1)++(subL x0 x2 (x0.length:Int))).length) c0)] (allSl_mem ⟨e20,e21,e22,e23,e24,e25,e26,e0,trivial⟩) rfl
   clear hB e20 e21 e22 e23 e24 e25 e26 e0
   refine wp_seq ?_
   refine wp_region_lit ?_
   refine op_val (v:=.slice A0 (((subL x0 0 x1)++(subL x0 x2 (x0.length:Int))).length) c0) rfl rfl hF rfl (run_move rfl (hF.ev rfl)) ?_; clear hF; intro a hF
   refine op_val (v:=.slice A0 (((subL x0 0 x1)++(subL x0 x2 (x0.length:Int))).length) c0) rfl rfl hF rfl (run_move rfl (hF.ev rfl)) ?_; clear hF; intro a hF
   refine op_val (v:=.int .i64 ((((subL x0 0 x1)++(subL x0 x2 (x0.length:Int))).length):Int)) rfl rfl hF rfl (run_lenL rfl rfl Tryz.underlying31 (hF.ev rfl)) ?_; clear hF; intro a hF
   refine op_val (v:=.int .i64 (x0.length:Int)) rfl rfl hF rfl (run_move rfl (hF.ev rfl)) ?_; clear hF; intro a hF
   refine op_val (v:=.slice (subA c0 (((((subL x0 0 x1)++(subL x0 x2 (x0.length:Int))).length):Int).toNat) 1 A0) ((x0.length:Int).toNat - ((((subL x0 0 x1)++(subL x0 x2 (x0.length:Int))).length):Int).toNat) (c0 - ((((subL x0 0 x1)++(subL x0 x2 (x0.length:Int))).length):Int).toNat)) rfl rfl hF rfl (run_slicebey rfl Tryz.underlying31 sz3 (hF.ev rfl) (hF.ev rfl) (hF.ev rfl) ⟨Int.natCast_nonneg _,Int.ofNat_le.2 hq107,Int.ofNat_le.2 hp106⟩) ?_; clear hF; intro a hF
   obtain ⟨w',hrun,S'⟩:=S.clear (i:=0) (P:=Tryz.prog) (hi:=(x0.length:Int)) rfl rfl eI_len Tryz.underlying31 inf3 rfl rfl ⟨Int.ofNat_le.2 hq107,Int.ofNat_le.2 hp106⟩
   refine op_builtin0 rfl rfl rfl (hF.ev rfl) hrun ?_
   clear S hrun; have S:=S'; clear S'; generalize w'=u at S ⊢
   refine wpList_nil ?_
   refine wp_seq ?_
   refine wp_region_lit ?_
   refine op_val (v:=.slice A0 (((subL x0 0 x1)++(subL x0 x2 (x0.length:Int))).length) c0) rfl rfl hF rfl (run_move rfl (hF.ev rfl)) ?_; clear hF; intro a hF
   refine op_val (v:=.slice A0 (((subL x0 0 x1)++(subL x0 x2 (x0.length:Int))).length) c0) rfl rfl hF rfl (run_assign rfl (hF.ev rfl)) ?_; clear hF; intro a hF
   refine wpList_nil ?_
   refine wp_ret ?_
   repeat with_reducible (first | refine then_ret ?_ | refine in_ret ?_ | refine in_nrm ?_)
   refine ret1_gw (.inl rfl) hF rfl (res_tmp (hF.ev rfl)) ?_
   obtain rfl:=Option.some.inj hM
   exact ⟨A0,(((subL x0 0 x1)++(subL x0 x2 (x0.length:Int))).length),c0,rfl,rfl,S.selT (M:=[.row 3 1 (.slice A0 (((subL x0 0 x1)++(subL x0 x2 (x0.length:Int))).length) c0) (((subL x0 0 x1)++(subL x0 x2 (x0.length:Int))).length) (((subL x0 0 x1)++(subL x0 x2 (x0.length:Int))).flatMap eI)]) 1 [0] rfl rfl rfl⟩
 ·replace hM:=bif_t hc102 hM
  refine cond_t hF rfl hc102 ?_
  refine wp_seq ?_
  refine wp_region_lit ?_
  refine op_val (v:=.slice A0 x0.length c0) rfl rfl hF rfl (run_move rfl (hF.ev rfl)) ?_; clear hF; intro a hF
  refine op_val (v:=.slice A0 x0.length c0) rfl rfl hF rfl (run_assign rfl (hF.ev rfl)) ?_; clear hF; intro a hF
  refine wpList_nil ?_
  refine wp_ret ?_
  repeat with_reducible (first | refine then_ret ?_ | refine in_ret ?_ | refine in_nrm ?_)
  refine ret1_gw (.inl rfl) hF rfl (res_tmp (hF.ev rfl)) ?_
  obtain rfl:=Option.some.inj hM
  exact ⟨A0,x0.length,c0,rfl,rfl,S.selT (M:=[.row 3 1 (.slice A0 x0.length c0) x0.length (x0.flatMap eI)]) 1 [0] rfl rfl rfl⟩
def k_slices_Delete_int_int:Ctr:=⟨182,[.o (.sl .tk 3 (.int .i64)),.o (.int .i64),.o (.int .i64)],[.o (.row 3 (.int .i64))],true,fun x=>m_slices_Delete_int_int x.1 x.2.1 x.2.2⟩
theorem d_slices_Delete_int_int:Cok Tryz.prog k_slices_Delete_int_int:=⟨co182,fun x res hm e w0 w X _ hp hS=>(c_slices_Delete_int_int (w:=w) (w0:=w0) (X:=X) (A0:=e.a 0) (n0:=x.1.length) (c0:=e.c 0) rfl hS hm).mono (by
 rintro en w' ⟨B,N,D,rfl,hN,S⟩
 subst hN
 exact ⟨_,_,rfl,⟨[_],[],[],[_],[],[],rfl,rfl,⟨_,[],_,[],[_],[],rfl,rfl,rfl,⟨res,B,D,rfl,rfl,rfl⟩,rfl,rfl,rfl⟩,⟨rfl,rfl⟩,⟨[],[],[],[],rfl,rfl,⟨rfl,rfl⟩,⟨[],[],[],[],rfl,rfl,⟨rfl,rfl⟩,⟨[],[],[],[],rfl,rfl,⟨rfl,rfl⟩,⟨rfl,rfl⟩⟩⟩⟩⟩,S⟩)⟩
set_option maxHeartbeats 4000000 in
theorem c_slices_Insert_int_int {x0:List Int} {x1:Int} {x2:List Int} {A0:Option Addr} {n0 c0:Nat} {A2:Option Addr} {n2 c2:Nat} {w:World} {r:List Int} {w0:World} {X:List Asn} (h0 : n0=x0.length) (h2 : n2=x2.length) (S:St w0 w (Asn.row 3 1 (.slice A0 n0 c0) n0 (x0.flatMap eI) :: Asn.row 3 1 (.slice A2 n2 c2) n2 (x2.flatMap eI) :: X)) (hM : m_slices_Insert_int_int x0 x1 x2=some r) :
  Calls Tryz.prog 181 #[.slice A0 n0 c0,.int .i64 x1,.slice A2 n2 c2] w (fun e w'=>∃ (B0:Option Addr) (N0 D0:Nat),e=.returned (.slice B0 N0 D0)∧N0=r.length∧St w0 w' (Asn.row 3 1 (.slice B0 N0 D0) N0 (r.flatMap eI) :: X)):=by
 obtain rfl:=h0
 obtain rfl:=h2
 unfold m_slices_Insert_int_int at hM
 obtain ⟨hk1,hM⟩:=chk_ex hM
 obtain ⟨hk2,hM⟩:=chk_ex hM
 obtain ⟨hk3,hM⟩:=chk_ex hM
 obtain rfl:=Option.some.inj hM
 replace hk1:=slB_t hk1
 replace hk2:=apB_t hk2
 obtain ⟨y,rfl⟩ : ∃ y,x2=[y]:=List.length_eq_one_iff.1 (by have:=eq_of_beq hk3; omega)
 refine (ins_calls S (k:=0) (m:=1) rfl rfl rfl (by decide) ⟨hk1.2.1,hk1.2.2⟩ hk2).mono ?_
 rintro e w' ⟨B,D,rfl,T⟩
 exact ⟨B,_,D,rfl,ins_len hk1.2.1 hk1.2.2,T.sub (.cons_cons _ (.cons _ (List.Sublist.refl _)))⟩
def k_slices_Insert_int_int:Ctr:=⟨181,[.o (.sl .tk 3 (.int .i64)),.o (.int .i64),.o (.sl .tk 3 (.int .i64))],[.o (.row 3 (.int .i64))],true,fun x=>m_slices_Insert_int_int x.1 x.2.1 x.2.2⟩
theorem d_slices_Insert_int_int:Cok Tryz.prog k_slices_Insert_int_int:=⟨co181,fun x res hm e w0 w X _ hp hS=>(c_slices_Insert_int_int (w:=w) (w0:=w0) (X:=X) (A0:=e.a 0) (n0:=x.1.length) (c0:=e.c 0) (A2:=e.a 2) (n2:=x.2.2.length) (c2:=e.c 2) rfl rfl hS hm).mono (by
 rintro en w' ⟨B,N,D,rfl,hN,S⟩
 subst hN
 exact ⟨_,_,rfl,⟨[_],[],[],[_],[],[],rfl,rfl,⟨_,[],_,[],[_],[],rfl,rfl,rfl,⟨res,B,D,rfl,rfl,rfl⟩,rfl,rfl,rfl⟩,⟨rfl,rfl⟩,⟨[],[],[],[],rfl,rfl,⟨rfl,rfl⟩,⟨[],[],[],[],rfl,rfl,⟨rfl,rfl⟩,⟨[],[],[],[],rfl,rfl,⟨rfl,rfl⟩,⟨rfl,rfl⟩⟩⟩⟩⟩,S⟩)⟩
def k_impl_WorkHeld:Ctr:=⟨234,[.g [.sl .ro 4 .b,.sl .ro 4 .b,.sl .ro 125 (.p (.int .i64) (.int .i64))],.o (.int .i64)],[.o (.row 3 (.int .i64))],false,fun x=>m_impl_WorkHeld x.1 x.2.1 x.2.2.1 x.2.2.2⟩
theorem d_impl_WorkHeld:Cok Tryz.prog k_impl_WorkHeld:=cok (op:=opn) (cs:=[k_impl_WorkValid]) (rv:=[.tmp 4]) (crt:=.q .z (.q (.q .z (.q (.q .z .z) .z)) (.q .z (.q (.q .z (.cut ⟨[(4,.o .k),(5,.o (.r 3 (.int .i64)))],[],[]⟩ [] (.b (.lp ⟨[(1,.o .k),(4,.o .k),(5,.o (.r 3 (.int .i64))),(12,.o .k),(13,.o .k),(14,.o (.i .i64))],[],[]⟩ (.q .z (.q (.q .z .z) (.q (.b (.q .z (.q .z (.cut ⟨[(1,.o .k),(4,.o .k),(5,.o (.r 3 (.int .i64))),(12,.o .k),(13,.o .k),(14,.o .k)],[],[]⟩ [] (.q .z .z))))) .z))))))) (.q .z .z))))) tys_ok eqt_ok rfl ⟨d_impl_WorkValid,trivial⟩ opn_ok co234 Tryz.func234 rfl Tryz.ntmps234 rfl rfl (fun _=>by kernel_rfl)
def k_impl_Work_may:Ctr:=⟨216,[.g [.sl .ro 4 .b,.sl .ro 4 .b,.sl .ro 125 (.p (.int .i64) (.int .i64))],.g [.int .i64,.int .i64,.int .i64]],[.o .b],false,fun x=>m_impl_Work_may x.1 x.2.1 x.2.2.1 x.2.2.2.1 x.2.2.2.2.1 x.2.2.2.2.2⟩
theorem d_impl_Work_may:Cok Tryz.prog k_impl_Work_may:=cok (op:=opn) (cs:=[k_slices_Contains_impl_Permit_impl_Permit,k_impl_WorkHeld]) (rv:=[.tmp 4]) (crt:=.q .z (.q .z (.q .z (.q (.q .z (.b (.q (.q .z (.cut ⟨[(2,.o .k),(3,.o .k),(4,.o .k),(5,.o .k),(6,.o .k),(7,.o .k),(29,.o .k),(30,.o .b)],[(3,[.k,.k,.k]),(2,[.k,.k,.k])],[]⟩ [] (.q .z .z))) (.q (.q .z .z) (.q .z (.q (.q .z .z) (.q .z (.q (.q (.cut ⟨[(4,.o .b)],[],[]⟩ [] .z) .z) (.q .z (.q (.q .z .z) (.q .z (.q (.q .z .z) .z)))))))))))) (.q .z .z))))) tys_ok eqt_ok rfl ⟨d_slices_Contains_impl_Permit_impl_Permit,d_impl_WorkHeld,trivial⟩ opn_ok co216 Tryz.func216 rfl Tryz.ntmps216 rfl rfl (fun _=>by kernel_rfl)
set_option maxHeartbeats 4000000 in
theorem c_slices_Delete_impl_Permit_impl_Permit {x0:List (Int×Int)} {x1:Int} {x2:Int} {A0:Option Addr} {n0 c0:Nat} {w:World} {r:List (Int×Int)} {w0:World} {X:List Asn} (h0 : n0=x0.length) (S:St w0 w (Asn.row 125 2 (.slice A0 n0 c0) n0 (x0.flatMap ePermit) :: X)) (hM : m_slices_Delete_impl_Permit_impl_Permit x0 x1 x2=some r) :
  Calls Tryz.prog 217 #[.slice A0 n0 c0,.int .i64 x1,.int .i64 x2] w (fun e w'=>∃ (B0:Option Addr) (N0 D0:Nat),e=.returned (.slice B0 N0 D0)∧N0=r.length∧St w0 w' (Asn.row 125 2 (.slice B0 N0 D0) N0 (r.flatMap ePermit) :: X)):=by
 obtain rfl:=h0
 unfold m_slices_Delete_impl_Permit_impl_Permit at hM
 refine calls_gw Tryz.func217 Tryz.ntmps217 rfl [(0,.slice A0 x0.length c0),(1,.int .i64 x1),(2,.int .i64 x2)] ⟨rfl,rfl,rfl,trivial⟩ rfl ?_
 intro a hF
 refine wp_seq ?_
 refine wp_region_lit ?_
 refine op_val (v:=.slice none 0 0) rfl rfl hF rfl (run_assign rfl rfl) ?_; clear hF; intro a hF
 refine wpList_nil ?_
 refine wp_seq ?_
 refine wp_region_lit ?_
 refine op_val (v:=.slice A0 x0.length c0) rfl rfl hF rfl (run_move rfl (hF.ev rfl)) ?_; clear hF; intro a hF
 refine op_val (v:=.int .i64 x1) rfl rfl hF rfl (run_move rfl (hF.ev rfl)) ?_; clear hF; intro a hF
 refine op_val (v:=.int .i64 x2) rfl rfl hF rfl (run_move rfl (hF.ev rfl)) ?_; clear hF; intro a hF
 refine op_val (v:=.slice A0 x0.length c0) rfl rfl hF rfl (run_move rfl (hF.ev rfl)) ?_; clear hF; intro a hF
 refine op_val (v:=.int .i64 (x0.length:Int)) rfl rfl hF rfl (run_lenL rfl rfl Tryz.underlying28 (hF.ev rfl)) ?_; clear hF; intro a hF
 obtain ⟨hk101,hM⟩:=chk_ex hM
 replace hk101:=slB_t hk101
 refine op_val (v:=.slice (subA ((x0.length:Int).toNat) x1.toNat 2 A0) (x2.toNat - x1.toNat) ((x0.length:Int).toNat - x1.toNat)) rfl rfl hF rfl (run_slice3 rfl Tryz.underlying28 sz125 (hF.ev rfl) (hF.ev rfl) (hF.ev rfl) (hF.ev rfl) hk101 (Int.ofNat_le.2 (S.rc 0 rfl).cap)) ?_; clear hF; intro a hF
 refine wpList_nil ?_
 refine wp_seq ?_
 refine wp_seq ?_
 refine wp_region_lit ?_
 refine op_val (v:=.int .i64 x1) rfl rfl hF rfl (run_move rfl (hF.ev rfl)) ?_; clear hF; intro a hF
 refine op_val (v:=.int .i64 x2) rfl rfl hF rfl (run_move rfl (hF.ev rfl)) ?_; clear hF; intro a hF
 refine op_val (v:=.bool (x1 == x2)) rfl rfl hF rfl (run_eql (hF.ev rfl) (hF.ev rfl) rfl) ?_; clear hF; intro a hF
 refine wpList_nil ?_
 cases hc102:(x1 == x2)
 ·replace hM:=bif_f hc102 hM
  refine cond_f hF rfl hc102 ?_
  refine wp_skip ?_
  refine wp_seq ?_
  refine wp_region_lit ?_
  refine op_val (v:=.slice A0 x0.length c0) rfl rfl hF rfl (run_move rfl (hF.ev rfl)) ?_; clear hF; intro a hF
  refine op_val (v:=.int .i64 (x0.length:Int)) rfl rfl hF rfl (run_lenL rfl rfl Tryz.underlying28 (hF.ev rfl)) ?_; clear hF; intro a hF
  refine op_val (v:=.int .i64 (x0.length:Int)) rfl rfl hF rfl (run_assign rfl (hF.ev rfl)) ?_; clear hF; intro a hF
  refine wpList_nil ?_
  refine wp_seq ?_
  obtain ⟨hk103,hM⟩:=chk_ex hM
  replace hk103:=slB_t hk103
  obtain ⟨hk104,hM⟩:=chk_ex hM
  replace hk104:=slB_t hk104
  obtain ⟨hk105,hM⟩:=chk_ex hM
  replace hk105:=apB_t hk105
  have hp106:=(S.rc 0 rfl).cap
  have hq107:=del_len (l:=x0) (p:=x1) (q:=x2) rfl (by omega)
  refine region_gw (D:=[20,21,22,23,24,25,26,0]) (Lr:=(X)) (deps:=(fun | 0=>[20] | 1=>[21] | 2=>[22] | 3=>[23] | 4=>[24] | 5=>[25] | 6=>[26] | 7=>[0] | _=>[])) (rd:=(fun _=>[])) (zr:=(fun | 2=>[6] | 5=>[6] | _=>[]))
   (φ:=fun i vs=>match i,vs with | 0,[v20]=>v20=.slice A0 x0.length c0 | 1,[v21]=>v21=.int .i64 x1 | 2,[v22]=>v22=.slice (subA c0 ((0:Int).toNat) 2 A0) ((subL x0 0 x1).length) (c0 - (0:Int).toNat) | 3,[v23]=>v23=.slice A0 x0.length c0 | 4,[v24]=>v24=.int .i64 x2 | 5,[v25]=>v25=.slice (subA c0 x2.toNat 2 A0) ((subL x0 x2 (x0.length:Int)).length) (c0 - x2.toNat) | 6,[v26]=>v26=.slice A0 (((subL x0 0 x1)++(subL x0 x2 (x0.length:Int))).length) c0 | 7,[v0]=>v0=.slice A0 (((subL x0 0 x1)++(subL x0 x2 (x0.length:Int))).length) c0 | _,_=>True)
   (C:=fun i vs=>match i,vs with | 6,[v26]=>[.row 125 2 (.slice A0 (((subL x0 0 x1)++(subL x0 x2 (x0.length:Int))).length) c0) (((subL x0 0 x1)++(subL x0 x2 (x0.length:Int))).length) (((subL x0 0 x1)++(subL x0 x2 (x0.length:Int))).flatMap ePermit)] | _,_=>[])
   (κ:=(fun _=>none)) (Z:=(fun | 6=>[.row 125 2 (.slice A0 x0.length c0) x0.length (x0.flatMap ePermit)] | _=>[])) mixed hF (by kernel_rfl) (show St w0 _ (Asn.row 125 2 (.slice A0 x0.length c0) x0.length (x0.flatMap ePermit) :: X) from S.selT (M:=[.row 125 2 (.slice A0 x0.length c0) x0.length (x0.flatMap ePermit)]) 1 [0] rfl rfl rfl) ?_ ?_
  ·refine ⟨?_,?_,?_,?_,?_,?_,?_,?_,trivial⟩
   ·intro a u X' hB hu hp hr hz hl S
    replace S:St w0 u ([]++X'):=S
    exact .inl ⟨rfl,.slice A0 x0.length c0,u,(run_move rfl (hF.evU (hu 7 0 rfl rfl) rfl)),rfl,S⟩
   ·intro a u X' hB hu hp hr hz hl S
    replace S:St w0 u ([]++X'):=S
    exact .inl ⟨rfl,.int .i64 x1,u,(run_move rfl (hF.evB hB rfl rfl)),rfl,S⟩
   ·intro a u X' hB hu hp hr hz hl S
    replace S:St w0 u ([]++X'):=S
    have e20 : sl a 20=.slice A0 x0.length c0:=hp 0 rfl
    have e21 : sl a 21=.int .i64 x1:=hp 1 rfl
    exact .inl ⟨rfl,.slice (subA c0 ((0:Int).toNat) 2 A0) ((subL x0 0 x1).length) (c0 - (0:Int).toNat),u,(run_sliceH (l:=x0) rfl Tryz.underlying28 sz125 (ev_sl e20) (ev_sl e21) hk103 rfl (own_rc (show Ow _ _ _ _ _ _ from S.mem (List.mem_append_right _ (hz 6 (List.mem_of_getElem? (i:=0) rfl) _ (List.mem_of_getElem? (i:=0) rfl))))).cap),rfl,S⟩
   ·intro a u X' hB hu hp hr hz hl S
    replace S:St w0 u ([]++X'):=S
    exact .inl ⟨rfl,.slice A0 x0.length c0,u,(run_move rfl (hF.evU (hu 7 0 rfl rfl) rfl)),rfl,S⟩
   ·intro a u X' hB hu hp hr hz hl S
    replace S:St w0 u ([]++X'):=S
    exact .inl ⟨rfl,.int .i64 x2,u,(run_move rfl (hF.evB hB rfl rfl)),rfl,S⟩
   ·intro a u X' hB hu hp hr hz hl S
    replace S:St w0 u ([]++X'):=S
    have e23 : sl a 23=.slice A0 x0.length c0:=hp 3 rfl
    have e24 : sl a 24=.int .i64 x2:=hp 4 rfl
    exact .inl ⟨rfl,.slice (subA c0 x2.toNat 2 A0) ((subL x0 x2 (x0.length:Int)).length) (c0 - x2.toNat),u,(run_slicefrom (l:=x0) rfl Tryz.underlying28 sz125 (ev_sl e23) (ev_sl e24) hk104 rfl (own_rc (show Ow _ _ _ _ _ _ from S.mem (List.mem_append_right _ (hz 6 (List.mem_of_getElem? (i:=0) rfl) _ (List.mem_of_getElem? (i:=0) rfl))))).cap),rfl,S⟩
   ·intro a u X' hB hu hp hr hz hl S
    replace S:St w0 u ([.row 125 2 (.slice A0 x0.length c0) x0.length (x0.flatMap ePermit)]++X'):=S
    have e22 : sl a 22=.slice (subA c0 ((0:Int).toNat) 2 A0) ((subL x0 0 x1).length) (c0 - (0:Int).toNat):=hp 2 rfl
    have e25 : sl a 25=.slice (subA c0 x2.toNat 2 A0) ((subL x0 x2 (x0.length:Int)).length) (c0 - x2.toNat):=hp 5 rfl
    obtain ⟨w',hrun,S'⟩:=S.delrow (i:=0) (P:=Tryz.prog) (ty:=28) (p:=x1) (q:=x2) rfl rfl ePermit_len ePermit_one Tryz.underlying28 sz125 (by omega) (by omega) (by omega)
    exact .inl ⟨rfl,_,w',run_append rfl (ev_sl e22) (ev_sl e25) hrun,rfl,S'⟩
   ·intro a u X' hB hu hp hr hz hl S
    replace S:St w0 u ([]++X'):=S
    have e26 : sl a 26=.slice A0 (((subL x0 0 x1)++(subL x0 x2 (x0.length:Int))).length) c0:=hp 6 rfl
    exact .inl ⟨rfl,.slice A0 (((subL x0 0 x1)++(subL x0 x2 (x0.length:Int))).length) c0,u,(run_assign rfl (ev_sl e26)),rfl,S⟩
  ·intro a u hB hp S
   obtain ⟨q0,q1,q2,q3,q4,q5,q6,q7,_⟩:=hp
   have e20 : sl a 20=.slice A0 x0.length c0:=q0
   have e21 : sl a 21=.int .i64 x1:=q1
   have e22 : sl a 22=.slice (subA c0 ((0:Int).toNat) 2 A0) ((subL x0 0 x1).length) (c0 - (0:Int).toNat):=q2
   have e23 : sl a 23=.slice A0 x0.length c0:=q3
   have e24 : sl a 24=.int .i64 x2:=q4
   have e25 : sl a 25=.slice (subA c0 x2.toNat 2 A0) ((subL x0 x2 (x0.length:Int)).length) (c0 - x2.toNat):=q5
   have e26 : sl a 26=.slice A0 (((subL x0 0 x1)++(subL x0 x2 (x0.length:Int))).length) c0:=q6
   have e0 : sl a 0=.slice A0 (((subL x0 0 x1)++(subL x0 x2 (x0.length:Int))).length) c0:=q7
   replace S:St w0 u (Asn.row 125 2 (.slice A0 (((subL x0 0 x1)++(subL x0 x2 (x0.length:Int))).length) c0) (((subL x0 0 x1)++(subL x0 x2 (x0.length:Int))).length) (((subL x0 0 x1)++(subL x0 x2 (x0.length:Int))).flatMap ePermit) :: X):=S
   clear q0 q1 q2 q3 q4 q5 q6 q7
   have hF:=hF.region hB [(20,.slice A0 x0.length c0),(21,.int .i64 x1),(22,.slice (subA c0 ((0:Int).toNat) 2 A0) ((subL x0 0 x1).length) (c0 - (0:Int).toNat)),(23,.slice A0 x0.length c0),(24,.int .i64 x2),(25,.slice (subA c0 x2.toNat 2 A0) ((subL x0 x2 (x0.length:Int)).length) (c0 - x2.toNat)),(26,.slice A0 (((subL x0 0 x1)++(subL x0 x2 (x0.length:Int))).length) c0),(0,.slice A0 (((subL x0 0 x1)++(subL x0 x2 (x0.length:Int))).length) c0)] (allSl_mem ⟨e20,e21,e22,e23,e24,e25,e26,e0,trivial⟩) rfl
   clear hB e20 e21 e22 e23 e24 e25 e26 e0
   refine wp_seq ?_
   refine wp_region_lit ?_
   refine op_val (v:=.slice A0 (((subL x0 0 x1)++(subL x0 x2 (x0.length:Int))).length) c0) rfl rfl hF rfl (run_move rfl (hF.ev rfl)) ?_; clear hF; intro a hF
   refine op_val (v:=.slice A0 (((subL x0 0 x1)++(subL x0 x2 (x0.length:Int))).length) c0) rfl rfl hF rfl (run_move rfl (hF.ev rfl)) ?_; clear hF; intro a hF
   refine op_val (v:=.int .i64 ((((subL x0 0 x1)++(subL x0 x2 (x0.length:Int))).length):Int)) rfl rfl hF rfl (run_lenL rfl rfl Tryz.underlying28 (hF.ev rfl)) ?_; clear hF; intro a hF
   refine op_val (v:=.int .i64 (x0.length:Int)) rfl rfl hF rfl (run_move rfl (hF.ev rfl)) ?_; clear hF; intro a hF
   refine op_val (v:=.slice (subA c0 (((((subL x0 0 x1)++(subL x0 x2 (x0.length:Int))).length):Int).toNat) 2 A0) ((x0.length:Int).toNat - ((((subL x0 0 x1)++(subL x0 x2 (x0.length:Int))).length):Int).toNat) (c0 - ((((subL x0 0 x1)++(subL x0 x2 (x0.length:Int))).length):Int).toNat)) rfl rfl hF rfl (run_slicebey rfl Tryz.underlying28 sz125 (hF.ev rfl) (hF.ev rfl) (hF.ev rfl) ⟨Int.natCast_nonneg _,Int.ofNat_le.2 hq107,Int.ofNat_le.2 hp106⟩) ?_; clear hF; intro a hF
   obtain ⟨w',hrun,S'⟩:=S.clear (i:=0) (P:=Tryz.prog) (hi:=(x0.length:Int)) rfl rfl ePermit_len Tryz.underlying28 inf125 rfl rfl ⟨Int.ofNat_le.2 hq107,Int.ofNat_le.2 hp106⟩
   refine op_builtin0 rfl rfl rfl (hF.ev rfl) hrun ?_
   clear S hrun; have S:=S'; clear S'; generalize w'=u at S ⊢
   refine wpList_nil ?_
   refine wp_seq ?_
   refine wp_region_lit ?_
   refine op_val (v:=.slice A0 (((subL x0 0 x1)++(subL x0 x2 (x0.length:Int))).length) c0) rfl rfl hF rfl (run_move rfl (hF.ev rfl)) ?_; clear hF; intro a hF
   refine op_val (v:=.slice A0 (((subL x0 0 x1)++(subL x0 x2 (x0.length:Int))).length) c0) rfl rfl hF rfl (run_assign rfl (hF.ev rfl)) ?_; clear hF; intro a hF
   refine wpList_nil ?_
   refine wp_ret ?_
   repeat with_reducible (first | refine then_ret ?_ | refine in_ret ?_ | refine in_nrm ?_)
   refine ret1_gw (.inl rfl) hF rfl (res_tmp (hF.ev rfl)) ?_
   obtain rfl:=Option.some.inj hM
   exact ⟨A0,(((subL x0 0 x1)++(subL x0 x2 (x0.length:Int))).length),c0,rfl,rfl,S.selT (M:=[.row 125 2 (.slice A0 (((subL x0 0 x1)++(subL x0 x2 (x0.length:Int))).length) c0) (((subL x0 0 x1)++(subL x0 x2 (x0.length:Int))).length) (((subL x0 0 x1)++(subL x0 x2 (x0.length:Int))).flatMap ePermit)]) 1 [0] rfl rfl rfl⟩
 ·replace hM:=bif_t hc102 hM
  refine cond_t hF rfl hc102 ?_
  refine wp_seq ?_
  refine wp_region_lit ?_
  refine op_val (v:=.slice A0 x0.length c0) rfl rfl hF rfl (run_move rfl (hF.ev rfl)) ?_; clear hF; intro a hF
  refine op_val (v:=.slice A0 x0.length c0) rfl rfl hF rfl (run_assign rfl (hF.ev rfl)) ?_; clear hF; intro a hF
  refine wpList_nil ?_
  refine wp_ret ?_
  repeat with_reducible (first | refine then_ret ?_ | refine in_ret ?_ | refine in_nrm ?_)
  refine ret1_gw (.inl rfl) hF rfl (res_tmp (hF.ev rfl)) ?_
  obtain rfl:=Option.some.inj hM
  exact ⟨A0,x0.length,c0,rfl,rfl,S.selT (M:=[.row 125 2 (.slice A0 x0.length c0) x0.length (x0.flatMap ePermit)]) 1 [0] rfl rfl rfl⟩
def k_slices_Delete_impl_Permit_impl_Permit:Ctr:=⟨217,[.o (.sl .tk 125 (.p (.int .i64) (.int .i64))),.o (.int .i64),.o (.int .i64)],[.o (.row 125 (.p (.int .i64) (.int .i64)))],true,fun x=>m_slices_Delete_impl_Permit_impl_Permit x.1 x.2.1 x.2.2⟩
theorem d_slices_Delete_impl_Permit_impl_Permit:Cok Tryz.prog k_slices_Delete_impl_Permit_impl_Permit:=⟨co217,fun x res hm e w0 w X _ hp hS=>(c_slices_Delete_impl_Permit_impl_Permit (w:=w) (w0:=w0) (X:=X) (A0:=e.a 0) (n0:=x.1.length) (c0:=e.c 0) rfl hS hm).mono (by
 rintro en w' ⟨B,N,D,rfl,hN,S⟩
 subst hN
 exact ⟨_,_,rfl,⟨[_],[],[],[_],[],[],rfl,rfl,⟨_,[],_,[],[_],[],rfl,rfl,rfl,⟨res,B,D,rfl,rfl,rfl⟩,rfl,rfl,rfl⟩,⟨rfl,rfl⟩,⟨[],[],[],[],rfl,rfl,⟨rfl,rfl⟩,⟨[],[],[],[],rfl,rfl,⟨rfl,rfl⟩,⟨[],[],[],[],rfl,rfl,⟨rfl,rfl⟩,⟨rfl,rfl⟩⟩⟩⟩⟩,S⟩)⟩
def k_impl_WorkDo:Ctr:=⟨183,[.g [.sl .ro 4 .b,.sl .ro 4 .b,.sl .ro 125 (.p (.int .i64) (.int .i64))],.g [.int .i64,.int .i64,.int .i64]],[.g [.row 4 .b,.row 4 .b,.row 125 (.p (.int .i64) (.int .i64))],.o .b],false,fun x=>m_impl_WorkDo x.1 x.2.1 x.2.2.1 x.2.2.2.1 x.2.2.2.2.1 x.2.2.2.2.2⟩
theorem d_impl_WorkDo:Cok Tryz.prog k_impl_WorkDo:=cok (op:=opn) (cs:=[k_impl_WorkValid,k_impl_Work_clone,k_impl_Work_may,k_slices_Index_impl_Permit_impl_Permit,k_slices_Delete_impl_Permit_impl_Permit]) (rv:=[.cell 4 30,.tmp 5]) (crt:=.q .z (.q (.q .z (.q (.q .z .z) .z)) (.q .z (.q (.q .z (.q (.q .z .z) .z)) (.q .z (.q (.q .z (.b (.q (.q .z (.cut ⟨[(3,.o .k),(4,.o .k),(5,.o .k),(6,.o .k),(7,.o .k),(39,.o .k),(40,.o .b)],[(7,[.k,.k]),(6,[.k,.k,.k]),(4,[.k,.k,.k]),(3,[.k,.k,.k])],[]⟩ [] (.q .z .z))) (.cut ⟨[(4,.o .k),(5,.o .k),(6,.o .k)],[(6,[.w 4 .b,.w 4 .b,.r 125 (.p (.int .i64) (.int .i64))]),(4,[.k,.k,.k])],[]⟩ [] (.q .z (.q (.q .z (.cut ⟨[(3,.o .k),(4,.o .k),(5,.o .k),(6,.o .k),(7,.o .k),(39,.o .k),(51,.o .b)],[(7,[.k,.k]),(6,[.k,.k,.k]),(4,[.k,.k,.k]),(3,[.k,.k,.k])],[]⟩ [] (.q .z .z))) (.cut ⟨[(4,.o .k),(5,.o .k),(6,.o .k)],[(6,[.k,.w 4 .b,.r 125 (.p (.int .i64) (.int .i64))]),(4,[.k,.k,.k])],[]⟩ [] (.q .z (.q .z (.cut ⟨[(4,.o .k),(5,.o .k),(6,.o .k)],[(6,[.k,.k,.r 125 (.p (.int .i64) (.int .i64))]),(4,[.k,.k,.k])],[]⟩ [] (.q .z (.q .z (.cut ⟨[(4,.o .k),(5,.o .k),(6,.o .k)],[(6,[.k,.k,.r 125 (.p (.int .i64) (.int .i64))]),(4,[.k,.k,.k])],[]⟩ [] (.q (.q .z .z) .z)))))))))))))) (.q .z .z))))))) tys_ok eqt_ok rfl ⟨d_impl_WorkValid,d_impl_Work_clone,d_impl_Work_may,d_slices_Index_impl_Permit_impl_Permit,d_slices_Delete_impl_Permit_impl_Permit,trivial⟩ opn_ok co183 Tryz.func183 rfl Tryz.ntmps183 rfl rfl (fun _=>by kernel_rfl)
def k_impl_World_do:Ctr:=⟨119,[.bx 33 [.int .i64,.sl .mu 77 (.p (.int .i64) (.p (.int .i64) (.int .i64))),.sl .mu 122 (.p (.int .i64) (.int .i64)),.sl .mu 4 .b,.sl .mu 4 .b,.sl .mu 125 (.p (.int .i64) (.int .i64)),.sl .mu 3 (.int .i64)],.g [.int .i64,.int .i64,.int .i64]],[.o .b],true,fun x=>m_impl_World_do x.1 x.2.1 x.2.2.1 x.2.2.2.1 x.2.2.2.2.1 x.2.2.2.2.2.1 x.2.2.2.2.2.2.1 x.2.2.2.2.2.2.2.1 x.2.2.2.2.2.2.2.2.1 x.2.2.2.2.2.2.2.2.2⟩
theorem d_impl_World_do:Cok Tryz.prog k_impl_World_do:=cok (op:=opn) (cs:=[k_slices_BinarySearch_int_int,k_slices_Insert_int_int,k_slices_Contains_impl_Permit_impl_Permit,k_slices_Delete_int_int,k_impl_WorkDo,k_impl_Radial]) (rv:=[.tmp 4]) (crt:=.q .z (.q .z (.q (.q .z (.b (.q .z (.q (.q (.q .z (.q (.q .z .z) .z)) (.q .z (.q .z (.q .z .z)))) (.q .z (.q (.q (.q .z (.q (.q .z .z) .z)) (.q .z (.q .z .z))) (.q .z (.cut ⟨[(0,.o .k),(3,.o .k),(4,.o .k)],[(3,[.k,.k,.k]),(4096,[.k,.k,.k,.k,.k,.k,.k])],[]⟩ [.rt] (.q (.q .z (.q (.q .z .z) .z)) .z))))))))) (.q .z (.q .z (.q .z .z)))))) tys_ok eqt_ok rfl ⟨d_slices_BinarySearch_int_int,d_slices_Insert_int_int,d_slices_Contains_impl_Permit_impl_Permit,d_slices_Delete_int_int,d_impl_WorkDo,d_impl_Radial,trivial⟩ opn_ok co119 Tryz.func119 rfl Tryz.ntmps119 rfl rfl (fun _=>by kernel_rfl)
def k_impl_WorldDo:Ctr:=⟨53,[.g [.int .i64,.sl .ro 77 (.p (.int .i64) (.p (.int .i64) (.int .i64))),.sl .ro 122 (.p (.int .i64) (.int .i64)),.sl .ro 4 .b,.sl .ro 4 .b,.sl .ro 125 (.p (.int .i64) (.int .i64)),.sl .ro 3 (.int .i64)],.g [.int .i64,.int .i64,.int .i64]],[.g [.int .i64,.row 77 (.p (.int .i64) (.p (.int .i64) (.int .i64))),.row 122 (.p (.int .i64) (.int .i64)),.row 4 .b,.row 4 .b,.row 125 (.p (.int .i64) (.int .i64)),.row 3 (.int .i64)],.o .b],false,fun x=>m_impl_WorldDo x.1 x.2.1 x.2.2.1 x.2.2.2.1 x.2.2.2.2.1 x.2.2.2.2.2.1 x.2.2.2.2.2.2.1 x.2.2.2.2.2.2.2.1 x.2.2.2.2.2.2.2.2.1 x.2.2.2.2.2.2.2.2.2⟩
theorem d_impl_WorldDo:Cok Tryz.prog k_impl_WorldDo:=cok (op:=opn) (cs:=[k_impl_WorldValid,k_impl_World_clone,k_impl_Net_hasLine,k_impl_World_do]) (rv:=[.cell 4 33,.tmp 5]) (crt:=.q .z (.q (.q .z (.q (.q .z .z) .z)) (.q .z (.q (.q (.cut ⟨[(2,.o .k),(4,.o .k),(5,.o .k),(6,.o .k),(23,.o .b)],[(6,[.i .i64,.r 77 (.p (.int .i64) (.p (.int .i64) (.int .i64))),.r 122 (.p (.int .i64) (.int .i64)),.r 4 .b,.r 4 .b,.r 125 (.p (.int .i64) (.int .i64)),.r 3 (.int .i64)]),(4,[.k,.k,.k,.k,.k,.k,.k]),(2,[.k,.k,.k,.k,.k,.k,.k])],[]⟩ [] .z) (.q (.q .z .z) .z)) (.q .z .z))))) tys_ok eqt_ok rfl ⟨d_impl_WorldValid,d_impl_World_clone,d_impl_Net_hasLine,d_impl_World_do,trivial⟩ opn_ok co53 Tryz.func53 rfl Tryz.ntmps53 rfl rfl (fun _=>by kernel_rfl)
def k_impl_Work_returns:Ctr:=⟨113,[.g [.sl .ro 4 .b,.sl .ro 4 .b,.sl .ro 125 (.p (.int .i64) (.int .i64))]],[.o (.row 86 (.p (.int .i64) (.p (.int .i64) (.int .i64))))],false,fun x=>m_impl_Work_returns x.1 x.2.1 x.2.2⟩
theorem d_impl_Work_returns:Cok Tryz.prog k_impl_Work_returns:=cok (op:=opn) (cs:=[]) (rv:=[.tmp 2]) (crt:=.q .z (.q .z (.q (.q .z (.cut ⟨[(2,.o .k),(3,.o (.r 86 (.p (.int .i64) (.p (.int .i64) (.int .i64)))))],[],[]⟩ [] (.b (.lp ⟨[(2,.o .k),(3,.o (.r 86 (.p (.int .i64) (.p (.int .i64) (.int .i64))))),(7,.o .k),(8,.o .k),(9,.o (.i .i64))],[],[]⟩ (.q .z (.q (.q .z .z) (.q (.b (.q .z .z)) .z))))))) (.q .z .z)))) tys_ok eqt_ok rfl trivial opn_ok co113 Tryz.func113 rfl Tryz.ntmps113 rfl rfl (fun _=>by kernel_rfl)
def k_impl_deedsFor:Ctr:=⟨115,[.o (.int .i64),.o (.sl .ro 4 .b),.o .b],[.o (.row 86 (.p (.int .i64) (.p (.int .i64) (.int .i64))))],false,fun x=>m_impl_deedsFor x.1 x.2.1 x.2.2⟩
theorem d_impl_deedsFor:Cok Tryz.prog k_impl_deedsFor:=cok (op:=opn) (cs:=[]) (rv:=[.tmp 6]) (crt:=.q .z (.q .z (.q (.q .z (.cut ⟨[(6,.o .k),(7,.o (.r 86 (.p (.int .i64) (.p (.int .i64) (.int .i64)))))],[],[]⟩ [] (.b (.lp ⟨[(0,.o .k),(2,.o .k),(6,.o .k),(7,.o (.r 86 (.p (.int .i64) (.p (.int .i64) (.int .i64))))),(10,.o .k),(11,.o .k),(12,.o (.i .i64))],[],[]⟩ (.q .z (.q (.q .z .z) (.q (.b (.q .z (.q .z (.cut ⟨[(0,.o .k),(2,.o .k),(6,.o .k),(7,.o (.r 86 (.p (.int .i64) (.p (.int .i64) (.int .i64))))),(10,.o .k),(11,.o .k),(12,.o .k)],[],[]⟩ [] (.q .z .z))))) .z))))))) (.q .z .z)))) tys_ok eqt_ok rfl trivial opn_ok co115 Tryz.func115 rfl Tryz.ntmps115 rfl rfl (fun _=>by kernel_rfl)
def k_impl_stateOf:Ctr:=⟨46,[.o (.int .i64),.o (.int .i64)],[.o (.row 4 .b)],false,fun x=>m_impl_stateOf x.1 x.2⟩
theorem d_impl_stateOf:Cok Tryz.prog k_impl_stateOf:=cok (op:=opn) (cs:=[]) (rv:=[.tmp 4]) (crt:=.q .z (.q .z (.q (.q .z (.cut ⟨[(4,.o .k),(5,.o (.w 4 .b))],[],[]⟩ [] (.b (.lp ⟨[(0,.o .k),(4,.o .k),(5,.o (.w 4 .b)),(10,.o .k),(11,.o (.i .i64))],[],[]⟩ (.q .z (.q (.q .z .z) (.q (.b (.q .z .z)) .z))))))) (.q .z .z)))) tys_ok eqt_ok rfl trivial opn_ok co46 Tryz.func46 rfl Tryz.ntmps46 rfl rfl (fun _=>by kernel_rfl)
def k_impl_unionOf:Ctr:=⟨169,[.g [.int .i64,.sl .ro 77 (.p (.int .i64) (.p (.int .i64) (.int .i64)))],.o (.sl .ro 4 .b)],[.o (.row 3 (.int .i64))],false,fun x=>m_impl_unionOf x.1 x.2.1 x.2.2⟩
theorem d_impl_unionOf:Cok Tryz.prog k_impl_unionOf:=cok (op:=opn) (cs:=[k_impl_newUnion,k_impl_union_join]) (rv:=[.tmp 4]) (crt:=.q .z (.q .z (.q (.q .z (.cut ⟨[(4,.o .k),(5,.o (.w 3 (.int .i64)))],[],[]⟩ [] (.b (.lp ⟨[(1,.o .k),(4,.o .k),(5,.o (.w 3 (.int .i64))),(12,.o .k),(13,.o .k),(14,.o (.i .i64))],[],[]⟩ (.q .z (.q (.q .z .z) (.q (.b (.q .z (.q .z (.cut ⟨[(1,.o .k),(4,.o .k),(5,.o (.w 3 (.int .i64))),(12,.o .k),(13,.o .k),(14,.o .k)],[],[]⟩ [] (.q .z .z))))) .z))))))) (.q .z .z)))) tys_ok eqt_ok rfl ⟨d_impl_newUnion,d_impl_union_join,trivial⟩ opn_ok co169 Tryz.func169 rfl Tryz.ntmps169 rfl rfl (fun _=>by kernel_rfl)
def k_impl_sumsOf:Ctr:=⟨110,[.g [.int .i64,.sl .ro 77 (.p (.int .i64) (.p (.int .i64) (.int .i64)))],.o (.sl .ro 4 .b),.o (.sl .ro 122 (.p (.int .i64) (.int .i64)))],[.g [.int .i64,.int .i64,.int .i64,.int .i64,.int .i64,.int .i64,.int .i64,.int .i64,.int .i64,.int .i64,.int .i64,.int .i64,.int .i64,.int .i64,.int .i64,.int .i64]],false,fun x=>m_impl_sumsOf x.1 x.2.1 x.2.2.1 x.2.2.2⟩
theorem d_impl_sumsOf:Cok Tryz.prog k_impl_sumsOf:=cok (op:=opn) (cs:=[k_impl_unionOf,k_impl_union_find]) (rv:=[.cell 6 142]) (crt:=.q .z (.q .z (.q .z (.q (.q .z (.cut ⟨[(6,.o .k),(7,.o .k)],[(7,[.i .i64,.i .i64,.i .i64,.i .i64,.i .i64,.i .i64,.i .i64,.i .i64,.i .i64,.i .i64,.i .i64,.i .i64,.i .i64,.i .i64,.i .i64,.i .i64]),(6,[.k,.k,.k,.k,.k,.k,.k,.k,.k,.k,.k,.k,.k,.k,.k,.k])],[]⟩ [] (.b (.lp ⟨[(6,.o .k),(7,.o .k),(8,.o (.w 3 (.int .i64))),(15,.o .k),(16,.o .k),(17,.o (.i .i64))],[(7,[.i .i64,.i .i64,.i .i64,.i .i64,.i .i64,.i .i64,.i .i64,.i .i64,.i .i64,.i .i64,.i .i64,.i .i64,.i .i64,.i .i64,.i .i64,.i .i64]),(6,[.k,.k,.k,.k,.k,.k,.k,.k,.k,.k,.k,.k,.k,.k,.k,.k])],[]⟩ (.q .z (.q (.q .z .z) (.q (.b (.q .z (.q .z (.q .z .z)))) .z))))))) (.q .z .z))))) tys_ok eqt_ok rfl ⟨d_impl_unionOf,d_impl_union_find,trivial⟩ opn_ok co110 Tryz.func110 rfl Tryz.ntmps110 rfl rfl (fun _=>by kernel_rfl)
def k_impl_servedLoad:Ctr:=⟨47,[.g [.int .i64,.sl .ro 77 (.p (.int .i64) (.p (.int .i64) (.int .i64)))],.o (.sl .ro 4 .b),.o (.sl .ro 122 (.p (.int .i64) (.int .i64)))],[.o (.int .i64)],false,fun x=>m_impl_servedLoad x.1 x.2.1 x.2.2.1 x.2.2.2⟩
theorem d_impl_servedLoad:Cok Tryz.prog k_impl_servedLoad:=cok (op:=opn) (cs:=[k_impl_sumsOf]) (rv:=[.tmp 6]) (crt:=.q .z (.q .z (.q (.q .z (.cut ⟨[(6,.o .k),(8,.o (.i .i64))],[],[]⟩ [] (.b (.lp ⟨[(6,.o .k),(7,.o .k),(8,.o (.i .i64)),(16,.o .k),(17,.o (.i .i64))],[(7,[.k,.k,.k,.k,.k,.k,.k,.k,.k,.k,.k,.k,.k,.k,.k,.k])],[]⟩ (.q .z (.q (.q .z .z) (.q (.b (.q .z (.q .z (.cut ⟨[(6,.o .k),(7,.o .k),(8,.o (.i .i64)),(16,.o .k),(17,.o .k)],[(7,[.k,.k,.k,.k,.k,.k,.k,.k,.k,.k,.k,.k,.k,.k,.k,.k])],[]⟩ [] (.q .z .z))))) .z))))))) (.q .z .z)))) tys_ok eqt_ok rfl ⟨d_impl_sumsOf,trivial⟩ opn_ok co47 Tryz.func47 rfl Tryz.ntmps47 rfl rfl (fun _=>by kernel_rfl)
def k_impl_Changes:Ctr:=⟨48,[.o (.sl .ro 4 .b),.o (.sl .ro 4 .b)],[.o (.row 3 (.int .i64))],false,fun x=>m_impl_Changes x.1 x.2⟩
theorem d_impl_Changes:Cok Tryz.prog k_impl_Changes:=cok (op:=opn) (cs:=[]) (rv:=[.tmp 4]) (crt:=.q .z (.q (.q .z (.q (.q .z .z) .z)) (.q .z (.q (.q .z (.cut ⟨[(4,.o .k),(5,.o (.r 3 (.int .i64)))],[],[]⟩ [] (.b (.lp ⟨[(0,.o .k),(1,.o .k),(4,.o .k),(5,.o (.r 3 (.int .i64))),(13,.o .k),(14,.o (.i .i64))],[],[]⟩ (.q .z (.q (.q .z .z) (.q (.b (.q .z (.q .z (.cut ⟨[(0,.o .k),(1,.o .k),(4,.o .k),(5,.o (.r 3 (.int .i64))),(13,.o .k),(14,.o .k)],[],[]⟩ [] (.q .z .z))))) .z))))))) (.q .z .z))))) tys_ok eqt_ok rfl trivial opn_ok co48 Tryz.func48 rfl Tryz.ntmps48 rfl rfl (fun _=>by kernel_rfl)
def k_impl_tree_above:Ctr:=⟨207,[.g [.int .i64,.sl .ro 77 (.p (.int .i64) (.p (.int .i64) (.int .i64))),.sl .ro 3 (.int .i64),.sl .ro 3 (.int .i64),.sl .ro 3 (.int .i64)],.o (.int .i64)],[.o (.int .i64)],false,fun x=>m_impl_tree_above x.1 x.2.1 x.2.2.1 x.2.2.2.1 x.2.2.2.2.1 x.2.2.2.2.2⟩
theorem d_impl_tree_above:Cok Tryz.prog k_impl_tree_above:=cok (op:=opn) (cs:=[k_impl_Line_other]) (rv:=[.tmp 4]) (crt:=.q .z (.q .z .z)) tys_ok eqt_ok rfl ⟨d_impl_Line_other,trivial⟩ opn_ok co207 Tryz.func207 rfl Tryz.ntmps207 rfl rfl (fun _=>by kernel_rfl)
def k_impl_tree_flows:Ctr:=⟨173,[.g [.int .i64,.sl .ro 77 (.p (.int .i64) (.p (.int .i64) (.int .i64))),.sl .ro 3 (.int .i64),.sl .ro 3 (.int .i64),.sl .ro 3 (.int .i64)],.o (.sl .ro 122 (.p (.int .i64) (.int .i64)))],[.o (.row 3 (.int .i64))],false,fun x=>m_impl_tree_flows x.1 x.2.1 x.2.2.1 x.2.2.2.1 x.2.2.2.2.1 x.2.2.2.2.2⟩
theorem d_impl_tree_flows:Cok Tryz.prog k_impl_tree_flows:=cok (op:=opn) (cs:=[k_impl_tree_above]) (rv:=[.tmp 4]) (crt:=.q .z (.q .z (.q .z (.q (.q .z (.cut ⟨[(4,.o .k),(5,.o (.w 3 (.int .i64)))],[],[]⟩ [] (.b (.lp ⟨[(1,.o .k),(2,.o .k),(4,.o .k),(5,.o (.w 3 (.int .i64))),(6,.o (.w 3 (.int .i64))),(7,.o (.i .i64))],[(2,[.k,.k,.k,.k,.k])],[]⟩ (.q (.q .z (.q .z .z)) (.q (.b (.q .z (.q .z (.q .z (.q .z (.cut ⟨[(1,.o .k),(2,.o .k),(4,.o .k),(5,.o (.w 3 (.int .i64))),(6,.o (.w 3 (.int .i64))),(7,.o .k)],[(2,[.k,.k,.k,.k,.k])],[]⟩ [] (.q (.q .z .z) .z))))))) .z)))))) (.q .z .z))))) tys_ok eqt_ok rfl ⟨d_impl_tree_above,trivial⟩ opn_ok co173 Tryz.func173 rfl Tryz.ntmps173 rfl rfl (fun _=>by kernel_rfl)
def k_impl_tree_given:Ctr:=⟨174,[.g [.int .i64,.sl .ro 77 (.p (.int .i64) (.p (.int .i64) (.int .i64))),.sl .ro 3 (.int .i64),.sl .ro 3 (.int .i64),.sl .ro 3 (.int .i64)],.o (.sl .ro 122 (.p (.int .i64) (.int .i64))),.o (.int .i64)],[.o (.int .i64)],false,fun x=>m_impl_tree_given x.1 x.2.1 x.2.2.1 x.2.2.2.1 x.2.2.2.2.1 x.2.2.2.2.2.1 x.2.2.2.2.2.2⟩
theorem d_impl_tree_given:Cok Tryz.prog k_impl_tree_given:=cok (op:=opn) (cs:=[]) (rv:=[.tmp 6]) (crt:=.q .z (.q .z (.q (.q .z (.cut ⟨[(6,.o .k),(7,.o (.i .i64))],[],[]⟩ [] (.b (.lp ⟨[(1,.o .k),(2,.o .k),(6,.o .k),(7,.o (.i .i64)),(11,.o .k),(12,.o .k),(13,.o (.i .i64))],[],[]⟩ (.q .z (.q (.q .z .z) (.q (.b (.q .z (.q .z (.cut ⟨[(1,.o .k),(2,.o .k),(6,.o .k),(7,.o (.i .i64)),(11,.o .k),(12,.o .k),(13,.o .k)],[],[]⟩ [] (.q .z .z))))) .z))))))) (.q .z .z)))) tys_ok eqt_ok rfl trivial opn_ok co174 Tryz.func174 rfl Tryz.ntmps174 rfl rfl (fun _=>by kernel_rfl)
def k_impl_tree_good:Ctr:=⟨112,[.g [.int .i64,.sl .ro 77 (.p (.int .i64) (.p (.int .i64) (.int .i64))),.sl .ro 3 (.int .i64),.sl .ro 3 (.int .i64),.sl .ro 3 (.int .i64)],.o (.sl .ro 122 (.p (.int .i64) (.int .i64)))],[.o .b],false,fun x=>m_impl_tree_good x.1 x.2.1 x.2.2.1 x.2.2.2.1 x.2.2.2.2.1 x.2.2.2.2.2⟩
theorem d_impl_tree_good:Cok Tryz.prog k_impl_tree_good:=cok (op:=opn) (cs:=[k_impl_tree_flows,k_impl_tree_given]) (rv:=[.tmp 4]) (crt:=.q .z (.q (.q .z (.cut ⟨[(1,.o .k),(2,.o .k),(4,.o .k)],[(2,[.k,.k,.k,.k,.k])],[]⟩ [.rt] (.b (.lp ⟨[(1,.o .k),(2,.o .k),(4,.o .k),(11,.o .k),(12,.o .k),(13,.o (.i .i64))],[(2,[.k,.k,.k,.k,.k])],[]⟩ (.q .z (.q (.q .z .z) (.q (.b (.q .z (.q .z (.q (.q .z .z) .z)))) .z))))))) (.q (.q .z (.cut ⟨[(4,.o .k)],[],[]⟩ [.rt] (.b (.lp ⟨[(1,.o .k),(2,.o .k),(4,.o .k),(28,.o .k),(29,.o .k),(30,.o (.i .i64))],[(2,[.k,.k,.k,.k,.k])],[]⟩ (.q .z (.q (.q .z .z) (.q (.b (.q .z (.q .z (.q (.q .z .z) .z)))) .z))))))) (.q .z .z)))) tys_ok eqt_ok rfl ⟨d_impl_tree_flows,d_impl_tree_given,trivial⟩ opn_ok co112 Tryz.func112 rfl Tryz.ntmps112 rfl rfl (fun _=>by kernel_rfl)
def k_impl_NetGood:Ctr:=⟨49,[.g [.int .i64,.sl .ro 77 (.p (.int .i64) (.p (.int .i64) (.int .i64)))],.o (.sl .ro 4 .b),.o (.sl .ro 122 (.p (.int .i64) (.int .i64)))],[.o .b],false,fun x=>m_impl_NetGood x.1 x.2.1 x.2.2.1 x.2.2.2⟩
theorem d_impl_NetGood:Cok Tryz.prog k_impl_NetGood:=cok (op:=opn) (cs:=[k_impl_treeOf,k_impl_tree_good]) (rv:=[.tmp 6]) (crt:=.q .z (.q .z (.q .z .z))) tys_ok eqt_ok rfl ⟨d_impl_treeOf,d_impl_tree_good,trivial⟩ opn_ok co49 Tryz.func49 rfl Tryz.ntmps49 rfl rfl (fun _=>by kernel_rfl)
def k_impl_BestState:Ctr:=⟨12,[.g [.int .i64,.sl .ro 77 (.p (.int .i64) (.p (.int .i64) (.int .i64)))],.o (.sl .ro 4 .b),.o (.sl .ro 122 (.p (.int .i64) (.int .i64))),.o (.sl .ro 3 (.int .i64))],[.o (.row 4 .b),.o .b],false,fun x=>m_impl_BestState x.1 x.2.1 x.2.2.1 x.2.2.2.1 x.2.2.2.2⟩
theorem d_impl_BestState:Cok Tryz.prog k_impl_BestState:=cok (op:=opn) (cs:=[k_impl_fedValid,k_impl_Net_hasLine,k_impl_stateOf,k_impl_servedLoad,k_impl_Changes,k_impl_NetGood]) (rv:=[.tmp 8,.tmp 9]) (crt:=.q .z (.q (.q .z (.q (.q .z .z) .z)) (.q .z (.q (.q .z (.cut ⟨[(1,.o .k),(2,.o .k),(4,.o .k),(8,.o .k),(9,.o .k),(10,.o (.i .i64))],[(4,[.k,.k])],[]⟩ [] (.b (.lp ⟨[(1,.o .k),(2,.o .k),(4,.o .k),(8,.o .k),(9,.o .k),(10,.o (.i .i64)),(25,.o .k),(26,.o .k),(27,.o (.i .i64))],[(4,[.k,.k])],[]⟩ (.q .z (.q (.q .z .z) (.q (.b (.q .z (.q .z (.cut ⟨[(1,.o .k),(2,.o .k),(4,.o .k),(8,.o .k),(9,.o .k),(10,.o (.i .i64)),(25,.o .k),(26,.o .k),(27,.o .k)],[(4,[.k,.k])],[]⟩ [] (.q .z .z))))) .z))))))) (.q .z (.q .z (.q (.q .z (.cut ⟨[(8,.o .k),(9,.o .k),(13,.z 4 .b)],[],[]⟩ [] (.b (.lp ⟨[(1,.o .k),(2,.o .k),(4,.o .k),(8,.o .k),(9,.o .k),(10,.o .k),(13,.z 4 .b),(14,.o (.i .i64)),(15,.o (.i .i64)),(42,.o .k),(43,.o (.i .i64))],[(4,[.k,.k])],[]⟩ (.q .z (.q (.q .z .z) (.q (.cut ⟨[(1,.o .k),(2,.o .k),(4,.o .k),(8,.o .k),(9,.o .k),(10,.o .k),(13,.z 4 .b),(14,.o (.i .i64)),(15,.o (.i .i64)),(42,.o .k),(43,.o .k)],[(4,[.k,.k])],[]⟩ [] (.b (.q .z (.q (.q .z (.q .z .z)) (.q .z (.q .z (.q (.q .z (.q .z .z)) (.q .z (.q .z (.cut ⟨[(1,.o .k),(2,.o .k),(4,.o .k),(8,.o .k),(9,.o .k),(10,.o .k),(13,.z 4 .b),(14,.o (.i .i64)),(15,.o (.i .i64)),(42,.o .k),(43,.o .k)],[(4,[.k,.k])],[]⟩ [] (.q .z .z))))))))))) .z))))))) (.q .z .z)))))))) tys_ok eqt_ok rfl ⟨d_impl_fedValid,d_impl_Net_hasLine,d_impl_stateOf,d_impl_servedLoad,d_impl_Changes,d_impl_NetGood,trivial⟩ opn_ok co12 Tryz.func12 rfl Tryz.ntmps12 rfl rfl (fun _=>by kernel_rfl)
def k_impl_OrderTo:Ctr:=⟨175,[.o (.sl .ro 4 .b),.o (.sl .ro 4 .b)],[.o (.row 157 (.p (.int .i64) .b))],false,fun x=>m_impl_OrderTo x.1 x.2⟩
theorem d_impl_OrderTo:Cok Tryz.prog k_impl_OrderTo:=cok (op:=opn) (cs:=[]) (rv:=[.tmp 4]) (crt:=.q .z (.q (.q .z (.q (.q .z .z) .z)) (.q .z (.q (.q .z (.cut ⟨[(4,.o .k),(5,.o (.r 157 (.p (.int .i64) .b))),(6,.o (.r 157 (.p (.int .i64) .b)))],[],[]⟩ [] (.b (.lp ⟨[(0,.o .k),(1,.o .k),(4,.o .k),(5,.o (.r 157 (.p (.int .i64) .b))),(6,.o (.r 157 (.p (.int .i64) .b))),(19,.o .k),(20,.o (.i .i64))],[],[]⟩ (.q .z (.q (.q .z .z) (.q (.b (.q .z (.b (.q .z (.cut ⟨[(0,.o .k),(1,.o .k),(4,.o .k),(5,.o (.r 157 (.p (.int .i64) .b))),(6,.o (.r 157 (.p (.int .i64) .b))),(19,.o .k),(20,.o .k)],[],[]⟩ [] (.q .z (.q .z (.cut ⟨[(0,.o .k),(1,.o .k),(4,.o .k),(5,.o .k),(6,.o (.r 157 (.p (.int .i64) .b))),(19,.o .k),(20,.o .k)],[],[]⟩ [] (.q .z .z))))))))) .z))))))) (.q .z .z))))) tys_ok eqt_ok rfl trivial opn_ok co175 Tryz.func175 rfl Tryz.ntmps175 rfl rfl (fun _=>by kernel_rfl)
def k_impl_RestoreOrder:Ctr:=⟨116,[.g [.int .i64,.sl .ro 77 (.p (.int .i64) (.p (.int .i64) (.int .i64)))],.o (.sl .ro 4 .b),.o (.sl .ro 122 (.p (.int .i64) (.int .i64))),.o (.sl .ro 3 (.int .i64))],[.o (.row 157 (.p (.int .i64) .b)),.o .b],false,fun x=>m_impl_RestoreOrder x.1 x.2.1 x.2.2.1 x.2.2.2.1 x.2.2.2.2⟩
theorem d_impl_RestoreOrder:Cok Tryz.prog k_impl_RestoreOrder:=cok (op:=opn) (cs:=[k_impl_BestState,k_impl_OrderTo]) (rv:=[.tmp 8,.tmp 9]) (crt:=.q .z (.q .z (.q (.q .z (.q (.q .z .z) .z)) (.q .z .z)))) tys_ok eqt_ok rfl ⟨d_impl_BestState,d_impl_OrderTo,trivial⟩ opn_ok co116 Tryz.func116 rfl Tryz.ntmps116 rfl rfl (fun _=>by kernel_rfl)
def k_impl_HealDeeds:Ctr:=⟨50,[.g [.int .i64,.sl .ro 77 (.p (.int .i64) (.p (.int .i64) (.int .i64))),.sl .ro 122 (.p (.int .i64) (.int .i64)),.sl .ro 4 .b,.sl .ro 4 .b,.sl .ro 125 (.p (.int .i64) (.int .i64)),.sl .ro 3 (.int .i64)]],[.o (.row 86 (.p (.int .i64) (.p (.int .i64) (.int .i64))))],false,fun x=>m_impl_HealDeeds x.1 x.2.1 x.2.2.1 x.2.2.2.1 x.2.2.2.2.1 x.2.2.2.2.2.1 x.2.2.2.2.2.2⟩
theorem d_impl_HealDeeds:Cok Tryz.prog k_impl_HealDeeds:=cok (op:=opn) (cs:=[k_impl_WorldValid,k_impl_Work_returns,k_slices_Clone_bool_bool,k_impl_deedsFor,k_impl_RestoreOrder]) (rv:=[.tmp 2]) (crt:=.q .z (.q (.q .z (.q (.q .z .z) .z)) (.q .z (.q .z (.q (.q .z (.cut ⟨[(1,.o .k),(2,.o .k),(3,.o (.r 86 (.p (.int .i64) (.p (.int .i64) (.int .i64))))),(4,.o (.w 4 .b))],[(1,[.k,.k,.k,.k,.k,.k,.k])],[]⟩ [] (.b (.lp ⟨[(1,.o .k),(2,.o .k),(3,.o (.r 86 (.p (.int .i64) (.p (.int .i64) (.int .i64))))),(4,.o (.w 4 .b)),(25,.o .k),(26,.o .k),(27,.o (.i .i64))],[(1,[.k,.k,.k,.k,.k,.k,.k])],[]⟩ (.q .z (.q (.q .z .z) (.q (.b (.q .z (.q (.q .z (.cut ⟨[(1,.o .k),(2,.o .k),(3,.o (.r 86 (.p (.int .i64) (.p (.int .i64) (.int .i64))))),(4,.o (.w 4 .b)),(6,.o .k),(25,.o .k),(26,.o .k),(27,.o .k)],[(1,[.k,.k,.k,.k,.k,.k,.k])],[]⟩ [] (.q (.q .z .z) .z))) (.q .z (.cut ⟨[(1,.o .k),(2,.o .k),(3,.o (.r 86 (.p (.int .i64) (.p (.int .i64) (.int .i64))))),(4,.o .k),(25,.o .k),(26,.o .k),(27,.o .k)],[(1,[.k,.k,.k,.k,.k,.k,.k])],[]⟩ [] (.b (.lp ⟨[(1,.o .k),(2,.o .k),(3,.o (.r 86 (.p (.int .i64) (.p (.int .i64) (.int .i64))))),(4,.o .k),(6,.o .k),(25,.o .k),(26,.o .k),(27,.o .k),(44,.o .k),(45,.o (.i .i64))],[(1,[.k,.k,.k,.k,.k,.k,.k])],[]⟩ (.q .z (.q (.q .z .z) (.q (.b (.q .z .z)) .z)))))))))) .z))))))) (.q .z (.q .z (.q (.q .z (.cut ⟨[(2,.o .k),(3,.o (.r 86 (.p (.int .i64) (.p (.int .i64) (.int .i64)))))],[],[]⟩ [] (.b (.lp ⟨[(2,.o .k),(3,.o (.r 86 (.p (.int .i64) (.p (.int .i64) (.int .i64))))),(71,.o .k),(72,.o .k),(73,.o (.i .i64))],[],[]⟩ (.q .z (.q (.q .z .z) (.q (.b (.q .z (.q .z (.q (.q .z (.cut ⟨[(2,.o .k),(3,.o .k),(12,.o .k),(13,.o (.i .i64)),(71,.o .k),(72,.o .k),(73,.o .k)],[(12,[.k,.k])],[]⟩ [] (.q .z .z))) .z)))) .z))))))) (.q .z .z))))))))) tys_ok eqt_ok rfl ⟨d_impl_WorldValid,d_impl_Work_returns,d_slices_Clone_bool_bool,d_impl_deedsFor,d_impl_RestoreOrder,trivial⟩ opn_ok co50 Tryz.func50 rfl Tryz.ntmps50 rfl rfl (fun _=>by kernel_rfl)
def k_impl_WorldRun:Ctr:=⟨120,[.g [.int .i64,.sl .ro 77 (.p (.int .i64) (.p (.int .i64) (.int .i64))),.sl .ro 122 (.p (.int .i64) (.int .i64)),.sl .ro 4 .b,.sl .ro 4 .b,.sl .ro 125 (.p (.int .i64) (.int .i64)),.sl .ro 3 (.int .i64)],.o (.sl .ro 86 (.p (.int .i64) (.p (.int .i64) (.int .i64))))],[.g [.int .i64,.row 77 (.p (.int .i64) (.p (.int .i64) (.int .i64))),.row 122 (.p (.int .i64) (.int .i64)),.row 4 .b,.row 4 .b,.row 125 (.p (.int .i64) (.int .i64)),.row 3 (.int .i64)],.o (.int .i64)],false,fun x=>m_impl_WorldRun x.1 x.2.1 x.2.2.1 x.2.2.2.1 x.2.2.2.2.1 x.2.2.2.2.2.1 x.2.2.2.2.2.2.1 x.2.2.2.2.2.2.2⟩
theorem d_impl_WorldRun:Cok Tryz.prog k_impl_WorldRun:=cok (op:=opn) (cs:=[k_impl_WorldValid,k_impl_World_clone,k_impl_WorldDo]) (rv:=[.cell 4 33,.tmp 5]) (crt:=.q .z (.q (.q .z (.q (.q .z .z) .z)) (.q .z (.q (.q .z (.cut ⟨[(4,.o .k),(5,.o .k),(6,.o .k),(7,.o (.i .i64))],[(6,[.i .i64,.r 77 (.p (.int .i64) (.p (.int .i64) (.int .i64))),.r 122 (.p (.int .i64) (.int .i64)),.r 4 .b,.r 4 .b,.r 125 (.p (.int .i64) (.int .i64)),.r 3 (.int .i64)]),(4,[.k,.k,.k,.k,.k,.k,.k])],[]⟩ [] (.b (.lp ⟨[(4,.o .k),(5,.o .k),(6,.o .k),(7,.o (.i .i64)),(18,.o .k),(19,.o .k),(20,.o (.i .i64))],[(6,[.i .i64,.r 77 (.p (.int .i64) (.p (.int .i64) (.int .i64))),.r 122 (.p (.int .i64) (.int .i64)),.r 4 .b,.r 4 .b,.r 125 (.p (.int .i64) (.int .i64)),.r 3 (.int .i64)]),(4,[.k,.k,.k,.k,.k,.k,.k])],[]⟩ (.q .z (.q (.q .z .z) (.q (.b (.q .z (.q .z (.q .z (.cut ⟨[(4,.o .k),(5,.o .k),(6,.o .k),(7,.o (.i .i64)),(18,.o .k),(19,.o .k),(20,.o .k)],[(6,[.i .i64,.r 77 (.p (.int .i64) (.p (.int .i64) (.int .i64))),.r 122 (.p (.int .i64) (.int .i64)),.r 4 .b,.r 4 .b,.r 125 (.p (.int .i64) (.int .i64)),.r 3 (.int .i64)]),(4,[.k,.k,.k,.k,.k,.k,.k])],[]⟩ [] (.q (.q .z .z) .z)))))) .z))))))) (.q .z .z))))) tys_ok eqt_ok rfl ⟨d_impl_WorldValid,d_impl_World_clone,d_impl_WorldDo,trivial⟩ opn_ok co120 Tryz.func120 rfl Tryz.ntmps120 rfl rfl (fun _=>by kernel_rfl)
def k_impl_WorldRest:Ctr:=⟨54,[.g [.int .i64,.sl .ro 77 (.p (.int .i64) (.p (.int .i64) (.int .i64))),.sl .ro 122 (.p (.int .i64) (.int .i64)),.sl .ro 4 .b,.sl .ro 4 .b,.sl .ro 125 (.p (.int .i64) (.int .i64)),.sl .ro 3 (.int .i64)]],[.g [.int .i64,.row 77 (.p (.int .i64) (.p (.int .i64) (.int .i64))),.row 122 (.p (.int .i64) (.int .i64)),.row 4 .b,.row 4 .b,.row 125 (.p (.int .i64) (.int .i64)),.row 3 (.int .i64)]],false,fun x=>m_impl_WorldRest x.1 x.2.1 x.2.2.1 x.2.2.2.1 x.2.2.2.2.1 x.2.2.2.2.2.1 x.2.2.2.2.2.2⟩
theorem d_impl_WorldRest:Cok Tryz.prog k_impl_WorldRest:=cok (op:=opn) (cs:=[k_impl_HealDeeds,k_impl_WorldRun]) (rv:=[.cell 2 33]) (crt:=.q .z (.q .z (.q .z .z))) tys_ok eqt_ok rfl ⟨d_impl_HealDeeds,d_impl_WorldRun,trivial⟩ opn_ok co54 Tryz.func54 rfl Tryz.ntmps54 rfl rfl (fun _=>by kernel_rfl)
def k_impl_LineFlow:Ctr:=⟨121,[.g [.int .i64,.sl .ro 77 (.p (.int .i64) (.p (.int .i64) (.int .i64)))],.o (.sl .ro 4 .b),.o (.sl .ro 122 (.p (.int .i64) (.int .i64))),.o (.int .i64)],[.o (.int .i64)],false,fun x=>m_impl_LineFlow x.1 x.2.1 x.2.2.1 x.2.2.2.1 x.2.2.2.2⟩
theorem d_impl_LineFlow:Cok Tryz.prog k_impl_LineFlow:=cok (op:=opn) (cs:=[k_impl_treeOf,k_impl_Net_hasLine,k_impl_tree_flows]) (rv:=[.tmp 8]) (crt:=.q .z (.q .z (.q (.q .z (.q (.q .z .z) .z)) (.q .z .z)))) tys_ok eqt_ok rfl ⟨d_impl_treeOf,d_impl_Net_hasLine,d_impl_tree_flows,trivial⟩ opn_ok co121 Tryz.func121 rfl Tryz.ntmps121 rfl rfl (fun _=>by kernel_rfl)
def k_impl_listText:Ctr:=⟨124,[.o (.sl .ro 3 (.int .i64))],[.o .s],false,fun x=>m_impl_listText x⟩
theorem d_impl_listText:Cok Tryz.prog k_impl_listText:=cok (op:=opn) (cs:=[k_strconv_Itoa,k_strings_Join]) (rv:=[.tmp 2]) (crt:=.q .z (.q (.q .z (.q (.q .z .z) .z)) (.q .z (.q (.q .z (.cut ⟨[(2,.o .k),(3,.o (.w 9 .s))],[],[]⟩ [] (.b (.lp ⟨[(2,.o .k),(3,.o (.w 9 .s)),(12,.o .k),(13,.o .k),(14,.o (.i .i64))],[],[]⟩ (.q .z (.q (.q .z .z) (.q (.b (.q .z .z)) .z))))))) (.q .z .z))))) tys_ok eqt_ok rfl ⟨d_strconv_Itoa,d_strings_Join,trivial⟩ opn_ok co124 Tryz.func124 rfl Tryz.ntmps124 rfl rfl (fun _=>by kernel_rfl)
def k_impl_AliveBuses:Ctr:=⟨185,[.g [.int .i64,.sl .ro 77 (.p (.int .i64) (.p (.int .i64) (.int .i64)))],.o (.sl .ro 4 .b),.o (.sl .ro 122 (.p (.int .i64) (.int .i64)))],[.o (.row 3 (.int .i64))],false,fun x=>m_impl_AliveBuses x.1 x.2.1 x.2.2.1 x.2.2.2⟩
theorem d_impl_AliveBuses:Cok Tryz.prog k_impl_AliveBuses:=cok (op:=opn) (cs:=[k_impl_fedValid,k_impl_unionOf,k_impl_sumsOf,k_impl_union_find]) (rv:=[.tmp 6]) (crt:=.q .z (.q (.q .z (.q (.q .z .z) .z)) (.q .z (.q .z (.q (.q .z (.cut ⟨[(6,.o .k),(9,.o (.r 3 (.int .i64)))],[],[]⟩ [] (.b (.lp ⟨[(6,.o .k),(7,.o (.w 3 (.int .i64))),(8,.o .k),(9,.o (.r 3 (.int .i64))),(24,.o .k),(25,.o (.i .i64))],[(8,[.k,.k,.k,.k,.k,.k,.k,.k,.k,.k,.k,.k,.k,.k,.k,.k])],[]⟩ (.q .z (.q (.q .z .z) (.q (.b (.q .z (.q .z (.cut ⟨[(6,.o .k),(7,.o .k),(8,.o .k),(9,.o (.r 3 (.int .i64))),(24,.o .k),(25,.o .k)],[(8,[.k,.k,.k,.k,.k,.k,.k,.k,.k,.k,.k,.k,.k,.k,.k,.k])],[]⟩ [] (.q .z .z))))) .z))))))) (.q .z .z)))))) tys_ok eqt_ok rfl ⟨d_impl_fedValid,d_impl_unionOf,d_impl_sumsOf,d_impl_union_find,trivial⟩ opn_ok co185 Tryz.func185 rfl Tryz.ntmps185 rfl rfl (fun _=>by kernel_rfl)
def k_slices_Index_int_int:Ctr:=⟨219,[.o (.sl .ro 3 (.int .i64)),.o (.int .i64)],[.o (.int .i64)],false,fun x=>m_slices_Index_int_int x.1 x.2⟩
theorem d_slices_Index_int_int:Cok Tryz.prog k_slices_Index_int_int:=cok (op:=opn) (cs:=[]) (rv:=[.tmp 4]) (crt:=.q .z (.q (.q .z (.cut ⟨[(4,.o .k)],[],[]⟩ [.rt] (.b (.lp ⟨[(0,.o .k),(1,.o .k),(4,.o .k),(7,.o .k),(8,.o (.i .i64))],[],[]⟩ (.q .z (.q (.q .z .z) (.q (.b (.q .z (.q .z (.q (.q .z .z) .z)))) .z))))))) (.q .z .z))) tys_ok eqt_ok rfl trivial opn_ok co219 Tryz.func219 rfl Tryz.ntmps219 rfl rfl (fun _=>by kernel_rfl)
def k_slices_Contains_int_int:Ctr:=⟨186,[.o (.sl .ro 3 (.int .i64)),.o (.int .i64)],[.o .b],false,fun x=>m_slices_Contains_int_int x.1 x.2⟩
theorem d_slices_Contains_int_int:Cok Tryz.prog k_slices_Contains_int_int:=cok (op:=opn) (cs:=[k_slices_Index_int_int]) (rv:=[.tmp 4]) (crt:=.q .z (.q .z .z)) tys_ok eqt_ok rfl ⟨d_slices_Index_int_int,trivial⟩ opn_ok co186 Tryz.func186 rfl Tryz.ntmps186 rfl rfl (fun _=>by kernel_rfl)
def k_impl_WorldDark:Ctr:=⟨125,[.g [.int .i64,.sl .ro 77 (.p (.int .i64) (.p (.int .i64) (.int .i64))),.sl .ro 122 (.p (.int .i64) (.int .i64)),.sl .ro 4 .b,.sl .ro 4 .b,.sl .ro 125 (.p (.int .i64) (.int .i64)),.sl .ro 3 (.int .i64)]],[.o (.row 3 (.int .i64))],false,fun x=>m_impl_WorldDark x.1 x.2.1 x.2.2.1 x.2.2.2.1 x.2.2.2.2.1 x.2.2.2.2.2.1 x.2.2.2.2.2.2⟩
theorem d_impl_WorldDark:Cok Tryz.prog k_impl_WorldDark:=cok (op:=opn) (cs:=[k_impl_WorldValid,k_impl_AliveBuses,k_slices_Contains_int_int]) (rv:=[.tmp 2]) (crt:=.q .z (.q (.q .z (.q (.q .z .z) .z)) (.q .z (.q .z (.q (.q .z (.cut ⟨[(2,.o .k),(4,.o (.r 3 (.int .i64)))],[],[]⟩ [] (.b (.lp ⟨[(2,.o .k),(3,.o .k),(4,.o (.r 3 (.int .i64))),(19,.o .k),(20,.o .k),(21,.o (.i .i64))],[],[]⟩ (.q .z (.q (.q .z .z) (.q (.b (.q .z (.q .z (.cut ⟨[(2,.o .k),(3,.o .k),(4,.o (.r 3 (.int .i64))),(19,.o .k),(20,.o .k),(21,.o .k)],[],[]⟩ [] (.q .z .z))))) .z))))))) (.q .z .z)))))) tys_ok eqt_ok rfl ⟨d_impl_WorldValid,d_impl_AliveBuses,d_slices_Contains_int_int,trivial⟩ opn_ok co125 Tryz.func125 rfl Tryz.ntmps125 rfl rfl (fun _=>by kernel_rfl)
def k_impl_ServedLoad:Ctr:=⟨14,[.g [.int .i64,.sl .ro 77 (.p (.int .i64) (.p (.int .i64) (.int .i64)))],.o (.sl .ro 4 .b),.o (.sl .ro 122 (.p (.int .i64) (.int .i64)))],[.o (.int .i64)],false,fun x=>m_impl_ServedLoad x.1 x.2.1 x.2.2.1 x.2.2.2⟩
theorem d_impl_ServedLoad:Cok Tryz.prog k_impl_ServedLoad:=cok (op:=opn) (cs:=[k_impl_fedValid,k_impl_servedLoad]) (rv:=[.tmp 6]) (crt:=.q .z (.q (.q .z (.q (.q .z .z) .z)) (.q .z .z))) tys_ok eqt_ok rfl ⟨d_impl_fedValid,d_impl_servedLoad,trivial⟩ opn_ok co14 Tryz.func14 rfl Tryz.ntmps14 rfl rfl (fun _=>by kernel_rfl)
def k_impl_StateText:Ctr:=⟨123,[.o (.sl .ro 4 .b)],[.o .s],false,fun x=>m_impl_StateText x⟩
theorem d_impl_StateText:Cok Tryz.prog k_impl_StateText:=cok (op:=opn) (cs:=[]) (rv:=[.tmp 2]) (crt:=.q .z (.q (.q .z (.q (.q .z .z) .z)) (.q .z (.q (.q .z (.cut ⟨[(2,.o .k),(3,.o (.w 5 (.int .u8)))],[],[]⟩ [] (.b (.lp ⟨[(2,.o .k),(3,.o (.w 5 (.int .u8))),(12,.o .k),(13,.o .k),(14,.o (.i .i64))],[],[]⟩ (.q .z (.q (.q .z .z) (.q (.b (.q .z (.q .z (.q .z (.cut ⟨[(2,.o .k),(3,.o (.w 5 (.int .u8))),(12,.o .k),(13,.o .k),(14,.o .k)],[],[]⟩ [] (.q .z .z)))))) .z))))))) (.q .z .z))))) tys_ok eqt_ok rfl trivial opn_ok co123 Tryz.func123 rfl Tryz.ntmps123 rfl rfl (fun _=>by kernel_rfl)
def k_impl_World_answer:Ctr:=⟨55,[.g [.int .i64,.sl .ro 77 (.p (.int .i64) (.p (.int .i64) (.int .i64))),.sl .ro 122 (.p (.int .i64) (.int .i64)),.sl .ro 4 .b,.sl .ro 4 .b,.sl .ro 125 (.p (.int .i64) (.int .i64)),.sl .ro 3 (.int .i64)],.o (.sl .ro 9 .s)],[.o .s],false,fun x=>m_impl_World_answer x.1 x.2.1 x.2.2.1 x.2.2.2.1 x.2.2.2.2.1 x.2.2.2.2.2.1 x.2.2.2.2.2.2.1 x.2.2.2.2.2.2.2⟩
theorem d_impl_World_answer:Cok Tryz.prog k_impl_World_answer:=cok (op:=opn) (cs:=[k_impl_readNumber,k_impl_Net_hasLine,k_impl_LineFlow,k_strconv_Itoa,k_strings_Join,k_impl_StateText,k_impl_ServedLoad,k_impl_WorldDark,k_impl_listText,k_impl_NetText]) (rv:=[.tmp 4]) (crt:=.q .z (.q (.q .z (.q (.q .z (.q (.b (.q .z (.q (.q .z .z) (.q .z (.q (.q .z .z) .z))))) (.q .z .z))) .z)) (.q (.q .z (.b (.q .z (.q (.q .z .z) (.q .z (.q (.q .z .z) (.q .z (.q (.q .z .z) (.q .z (.q (.q .z .z) (.q .z (.q (.q .z .z) .z)))))))))))) (.q .z .z)))) tys_ok eqt_ok rfl ⟨d_impl_readNumber,d_impl_Net_hasLine,d_impl_LineFlow,d_strconv_Itoa,d_strings_Join,d_impl_StateText,d_impl_ServedLoad,d_impl_WorldDark,d_impl_listText,d_impl_NetText,trivial⟩ opn_ok co55 Tryz.func55 rfl Tryz.ntmps55 rfl rfl (fun _=>by kernel_rfl)
def k_impl_WorldLine:Ctr:=⟨16,[.g [.int .i64,.sl .ro 77 (.p (.int .i64) (.p (.int .i64) (.int .i64))),.sl .ro 122 (.p (.int .i64) (.int .i64)),.sl .ro 4 .b,.sl .ro 4 .b,.sl .ro 125 (.p (.int .i64) (.int .i64)),.sl .ro 3 (.int .i64)],.o .s],[.g [.int .i64,.row 77 (.p (.int .i64) (.p (.int .i64) (.int .i64))),.row 122 (.p (.int .i64) (.int .i64)),.row 4 .b,.row 4 .b,.row 125 (.p (.int .i64) (.int .i64)),.row 3 (.int .i64)],.o .s],false,fun x=>m_impl_WorldLine x.1 x.2.1 x.2.2.1 x.2.2.2.1 x.2.2.2.2.1 x.2.2.2.2.2.1 x.2.2.2.2.2.2.1 x.2.2.2.2.2.2.2⟩
theorem d_impl_WorldLine:Cok Tryz.prog k_impl_WorldLine:=cok (op:=opn) (cs:=[k_impl_WorldValid,k_strings_Split,k_impl_readDeed,k_impl_WorldDo,k_impl_WorldRest,k_impl_World_clone,k_impl_World_answer]) (rv:=[.cell 4 33,.tmp 5]) (crt:=.q .z (.q (.q .z (.q (.q .z .z) .z)) (.q .z (.q (.q .z (.q .z (.q (.q .z (.q (.q .z (.q (.q .z .z) .z)) (.q .z .z))) .z))) (.q (.q .z (.q (.q .z .z) .z)) (.q .z .z)))))) tys_ok eqt_ok rfl ⟨d_impl_WorldValid,d_strings_Split,d_impl_readDeed,d_impl_WorldDo,d_impl_WorldRest,d_impl_World_clone,d_impl_World_answer,trivial⟩ opn_ok co16 Tryz.func16 rfl Tryz.ntmps16 rfl rfl (fun _=>by kernel_rfl)
def k_impl_OtherEnd:Ctr:=⟨41,[.g [.int .i64,.sl .ro 77 (.p (.int .i64) (.p (.int .i64) (.int .i64)))],.o (.int .i64),.o (.int .i64)],[.o (.int .i64)],false,fun x=>m_impl_OtherEnd x.1 x.2.1 x.2.2.1 x.2.2.2⟩
theorem d_impl_OtherEnd:Cok Tryz.prog k_impl_OtherEnd:=cok (op:=opn) (cs:=[k_impl_NetValid,k_impl_Net_hasLine,k_impl_Line_other]) (rv:=[.tmp 6]) (crt:=.q .z (.q (.q .z (.q (.q .z .z) .z)) (.q .z .z))) tys_ok eqt_ok rfl ⟨d_impl_NetValid,d_impl_Net_hasLine,d_impl_Line_other,trivial⟩ opn_ok co41 Tryz.func41 rfl Tryz.ntmps41 rfl rfl (fun _=>by kernel_rfl)
def k_laws_alive:Ctr:=⟨10,[],[.o .b],false,fun x=>m_laws_alive⟩
theorem d_laws_alive:Cok Tryz.prog k_laws_alive:=cok (op:=opn) (cs:=[k_impl_OtherEnd,k_impl_NetText]) (rv:=[.tmp 0]) (crt:=.q .z (.q .z .z)) tys_ok eqt_ok rfl ⟨d_impl_OtherEnd,d_impl_NetText,trivial⟩ opn_ok co10 Tryz.func10 rfl Tryz.ntmps10 rfl rfl (fun _=>by kernel_rfl)
def k_spec_DrawWorldLines:Ctr:=⟨8,[.o (.sl .ro 5 (.int .u8))],[.g [.int .i64,.row 77 (.p (.int .i64) (.p (.int .i64) (.int .i64))),.row 122 (.p (.int .i64) (.int .i64)),.row 4 .b,.row 4 .b,.row 125 (.p (.int .i64) (.int .i64)),.row 3 (.int .i64)],.o (.row 9 .s)],false,fun x=>m_spec_DrawWorldLines x⟩
theorem d_spec_DrawWorldLines:Cok Tryz.prog k_spec_DrawWorldLines:=cok (op:=opn) (cs:=[k_spec_l20World,k_spec_l20Rd_pick,k_spec_l20Line,k_spec_l20Rd_odd]) (rv:=[.cell 2 33,.tmp 3]) (crt:=.q .z (.q .z (.q .z (.q .z (.q (.q .z (.cut ⟨[(2,.o .k),(3,.o .k),(4,.o .k),(5,.o .k),(6,.o (.r 9 .s))],[(4,[.k,.i .i64]),(5,[.k,.k,.k,.k,.k,.k,.k]),(2,[.k,.k,.k,.k,.k,.k,.k])],[]⟩ [] (.b (.lp ⟨[(2,.o .k),(3,.o .k),(4,.o .k),(5,.o .k),(6,.o (.r 9 .s)),(7,.o (.i .i64))],[(4,[.k,.i .i64]),(5,[.k,.k,.k,.k,.k,.k,.k]),(2,[.k,.k,.k,.k,.k,.k,.k])],[]⟩ (.q (.q .z (.q .z .z)) (.q (.b .z) .z)))))) (.q (.q .z (.cut ⟨[(2,.o .k),(3,.o .k),(5,.o .k),(6,.o (.r 9 .s))],[(5,[.k,.k,.k,.k,.k,.k,.k]),(2,[.k,.k,.k,.k,.k,.k,.k])],[]⟩ [] (.q .z .z))) (.q .z .z))))))) tys_ok eqt_ok rfl ⟨d_spec_l20World,d_spec_l20Rd_pick,d_spec_l20Line,d_spec_l20Rd_odd,trivial⟩ opn_ok co8 Tryz.func8 rfl Tryz.ntmps8 rfl rfl (fun _=>by kernel_rfl)
def k_impl_WorldLines:Ctr:=⟨11,[.g [.int .i64,.sl .ro 77 (.p (.int .i64) (.p (.int .i64) (.int .i64))),.sl .ro 122 (.p (.int .i64) (.int .i64)),.sl .ro 4 .b,.sl .ro 4 .b,.sl .ro 125 (.p (.int .i64) (.int .i64)),.sl .ro 3 (.int .i64)],.o (.sl .ro 9 .s)],[.g [.int .i64,.row 77 (.p (.int .i64) (.p (.int .i64) (.int .i64))),.row 122 (.p (.int .i64) (.int .i64)),.row 4 .b,.row 4 .b,.row 125 (.p (.int .i64) (.int .i64)),.row 3 (.int .i64)],.o (.row 9 .s)],false,fun x=>m_impl_WorldLines x.1 x.2.1 x.2.2.1 x.2.2.2.1 x.2.2.2.2.1 x.2.2.2.2.2.1 x.2.2.2.2.2.2.1 x.2.2.2.2.2.2.2⟩
theorem d_impl_WorldLines:Cok Tryz.prog k_impl_WorldLines:=cok (op:=opn) (cs:=[k_impl_WorldValid,k_impl_World_clone,k_impl_WorldLine]) (rv:=[.cell 4 33,.tmp 5]) (crt:=.q .z (.q (.q .z (.q (.q .z .z) .z)) (.q .z (.q .z (.q (.q .z (.cut ⟨[(4,.o .k),(5,.o .k),(6,.o .k),(7,.o (.w 9 .s))],[(6,[.i .i64,.r 77 (.p (.int .i64) (.p (.int .i64) (.int .i64))),.r 122 (.p (.int .i64) (.int .i64)),.r 4 .b,.r 4 .b,.r 125 (.p (.int .i64) (.int .i64)),.r 3 (.int .i64)]),(4,[.k,.k,.k,.k,.k,.k,.k])],[]⟩ [] (.b (.lp ⟨[(4,.o .k),(5,.o .k),(6,.o .k),(7,.o (.w 9 .s)),(24,.o .k),(25,.o .k),(26,.o (.i .i64))],[(6,[.i .i64,.r 77 (.p (.int .i64) (.p (.int .i64) (.int .i64))),.r 122 (.p (.int .i64) (.int .i64)),.r 4 .b,.r 4 .b,.r 125 (.p (.int .i64) (.int .i64)),.r 3 (.int .i64)]),(4,[.k,.k,.k,.k,.k,.k,.k])],[]⟩ (.q .z (.q (.q .z .z) (.q (.b (.q .z .z)) .z))))))) (.q .z .z)))))) tys_ok eqt_ok rfl ⟨d_impl_WorldValid,d_impl_World_clone,d_impl_WorldLine,trivial⟩ opn_ok co11 Tryz.func11 rfl Tryz.ntmps11 rfl rfl (fun _=>by kernel_rfl)
def k_impl_WorldCalm:Ctr:=⟨13,[.g [.int .i64,.sl .ro 77 (.p (.int .i64) (.p (.int .i64) (.int .i64))),.sl .ro 122 (.p (.int .i64) (.int .i64)),.sl .ro 4 .b,.sl .ro 4 .b,.sl .ro 125 (.p (.int .i64) (.int .i64)),.sl .ro 3 (.int .i64)]],[.o .b],false,fun x=>m_impl_WorldCalm x.1 x.2.1 x.2.2.1 x.2.2.2.1 x.2.2.2.2.1 x.2.2.2.2.2.1 x.2.2.2.2.2.2⟩
theorem d_impl_WorldCalm:Cok Tryz.prog k_impl_WorldCalm:=cok (op:=opn) (cs:=[k_impl_WorldValid,k_impl_HealDeeds]) (rv:=[.tmp 2]) (crt:=.q .z (.q (.cut ⟨[(2,.o .b)],[],[]⟩ [] .z) .z)) tys_ok eqt_ok rfl ⟨d_impl_WorldValid,d_impl_HealDeeds,trivial⟩ opn_ok co13 Tryz.func13 rfl Tryz.ntmps13 rfl rfl (fun _=>by kernel_rfl)
def k_laws_FnLinesHeal:Ctr:=⟨3,[.o (.sl .ro 5 (.int .u8))],[.o .b],false,fun x=>m_laws_FnLinesHeal x⟩
theorem d_laws_FnLinesHeal:Cok Tryz.prog k_laws_FnLinesHeal:=cok (op:=opn) (cs:=[k_spec_DrawWorldLines,k_spec_WorldValid,k_laws_alive,k_impl_WorldLines,k_impl_BestState,k_impl_WorldCalm,k_impl_ServedLoad]) (rv:=[.tmp 2]) (crt:=.q .z (.q (.q .z (.q (.q .z .z) .z)) (.q .z (.q (.q .z (.q (.q .z .z) .z)) (.q .z (.q (.q .z (.q (.q .z .z) .z)) (.q .z (.q .z .z)))))))) tys_ok eqt_ok rfl ⟨d_spec_DrawWorldLines,d_spec_WorldValid,d_laws_alive,d_impl_WorldLines,d_impl_BestState,d_impl_WorldCalm,d_impl_ServedLoad,trivial⟩ opn_ok ⟨by kernel_rfl⟩ Tryz.func3 rfl Tryz.ntmps3 rfl rfl (fun _=>by kernel_rfl)
theorem c_laws_FnLinesHeal {x0:List Int} {A0:Option Addr} {n0 c0:Nat} {w:World} (hbs:Bs w) {r:Bool} (h0:Rt w 1 eU A0 n0 c0 x0) (hM : m_laws_FnLinesHeal x0=some r) :
  Calls Tryz.prog 3 #[.slice A0 n0 c0] w (fun e w'=>e=.returned (.bool r)∧St w w' []):=by
 obtain rfl:=h0.len
 exact law_c d_laws_FnLinesHeal (x:=x0) hM (e:=parE [(A0,c0)]) hbs ⟨_,_,rfl,⟨_,rfl,fun _ _ S _=>S.rc0 h0.rc⟩,rfl⟩ rfl rfl rfl
end
end Go.Proofs.YtjdlgannencchaaGreatDoor
namespace Go.Proofs.YtjdlgannencchaaGreatDoor
open Go.Lib
set_option linter.unusedVariables false
set_option linter.unusedSimpArgs false
def tl (s:ByteArray):List UInt8:=s.data.toList
theorem tl_size (s:ByteArray):(tl s).length=s.size:=by simp [tl]
theorem tl_bs8 (l:List UInt8) : tl (bs8 l)=l:=bs8_data l
theorem tl_list (s:ByteArray) : s.toList=tl s:=ByteArray.toList_eq s
theorem byteAt_tl (s:ByteArray) (k:Nat) : byteAt s (k:Int)=(((tl s).getD k 0).toNat:Int):=rfl
theorem dv_le (c:UInt8) : dv c ≤ 207:=by have:=c.toNat_lt; unfold dv; omega
theorem valB_le (l:List UInt8) (h : l.length ≤ 3) : valB l ≤ 100000:=by
 match l,h with
 | [],_=>simp [valB]
 | [a],_=>have:=dv_le a; simp [valB]; omega
 | [a,b],_=>have:=dv_le a; have:=dv_le b; simp [valB]; omega
 | [a,b,c],_=>have:=dv_le a; have:=dv_le b; have:=dv_le c; simp [valB]; omega
theorem valB_take (l:List UInt8) {k:Nat} (h : k < l.length) : valB (l.take (k+1))=10 * valB (l.take k)+dv (l.getD k 0):=by
 unfold valB
 rw [List.take_succ_eq_append_getElem h,List.foldl_append,getD_ge h]; rfl
theorem dig_test (c:UInt8):(ltB (c.toNat:Int) 48 || ltB 57 (c.toNat:Int))=!isDg c:=by
 unfold ltB isDg
 by_cases h1 : 48 ≤ c.toNat <;> by_cases h2 : c.toNat ≤ 57 <;> simp [h1,h2] <;> omega
theorem dig_loop (s:ByteArray) (h : s.size ≤ 3) : m_impl_digitsOf_l1 s FUEL (0,0)=some (if (tl s).all isDg=true then .inl (valB (tl s):Int) else .inr (-1)):=by
 have hl:=tl_size s
 have hh:=loop_find (m_impl_digitsOf_l1 s) (fun k=>((valB ((tl s).take k):Int),(k:Int))) s.size (fun k=>!isDg ((tl s).getD k 0)) (some (.inr (-1))) (some (.inl (valB (tl s):Int))) (by omega) (fun k fuel hk=>by
  have hk2 : k < (tl s).length:=by omega
  have hv:=valB_le ((tl s).take k) (by simp; omega)
  rw [e_impl_digitsOf_l1,m_impl_digitsOf_l1s]
  simp only [lt_dec hk,ix_dec hk,byteAt_tl,dig_test,Bool.or_true,chk_true,cond_true,w64_succ (by omega : k < 4611686018427387904)]
  cases hd : isDg ((tl s).getD k 0) with
  | false=>rfl
  | true =>
   have hr:=isDg_iff hd
   have hdv:(((tl s).getD k 0).toNat:Int) - 48=(dv ((tl s).getD k 0):Int):=by unfold dv; omega
   have hlt:=dv_lt hd
   simp only [Bool.not_true,cond_false]
   have e1 : w64 (10 * (valB ((tl s).take k):Int))=10 * (valB ((tl s).take k):Int):=w64_id (by omega)
   have e2 : w64 (dv ((tl s).getD k 0):Int)=(dv ((tl s).getD k 0):Int):=w64_id (by omega)
   rw [hdv,wk8 (by omega),e1,e2,w64_id (by omega),valB_take _ hk2]
   rfl) (fun fuel=>by
   have ht:(tl s).take s.size=tl s:=List.take_of_length_le (by omega)
   rw [e_impl_digitsOf_l1,m_impl_digitsOf_l1s,ht]
   simp only [nlt_dec,cond_false])
 rw [← hl,any_list (tl s) 0 (fun c=>!isDg c)] at hh
 have hany:(tl s).any (fun c=>!isDg c)=!(tl s).all isDg:=by simp [List.all_eq_not_any_not]
 rw [hany] at hh
 rw [show m_impl_digitsOf_l1 s FUEL (0,0)=_ from hh]
 cases (tl s).all isDg <;> rfl
theorem iDigits (s:ByteArray) : m_impl_digitsOf s=some (dgs (tl s)):=by
 have hl:=tl_size s
 unfold m_impl_digitsOf dgs
 by_cases h : 1 ≤ s.size∧s.size ≤ 3
 ·rw [show ltB (s.size:Int) 1=false from decide_eq_false (by omega),show ltB 3 (s.size:Int)=false from decide_eq_false (by omega),dig_loop s h.2]
  by_cases ha:(tl s).all isDg=true
  ·have hc : 1 ≤ (tl s).length∧(tl s).length ≤ 3∧(tl s).all isDg=true:=⟨by omega,by omega,ha⟩
   rw [if_pos hc]; simp [ha]
  ·have hc : ¬ (1 ≤ (tl s).length∧(tl s).length ≤ 3∧(tl s).all isDg=true):=fun k=>ha k.2.2
   rw [if_neg hc]; simp [ha]
 ·have hc : ¬ (1 ≤ (tl s).length∧(tl s).length ≤ 3∧(tl s).all isDg=true):=fun k=>h ⟨by omega,by omega⟩
  rw [if_neg hc]
  have:(ltB (s.size:Int) 1 || ltB 3 (s.size:Int))=true:=by
   unfold ltB; simp only [Bool.or_eq_true,decide_eq_true_eq]; omega
  rw [this]; rfl
theorem iReadNum (s:ByteArray) : m_impl_readNumber s=some (dgs (tl s),decide (0 ≤ num3 (tl s))):=by
 have hb:=dgs_lt (tl s)
 unfold m_impl_readNumber
 rw [iDigits,Option.bind_some]
 by_cases h : 0 ≤ dgs (tl s)
 ·obtain ⟨n,hn⟩ : ∃ n:Nat,dgs (tl s)=n:=⟨(dgs (tl s)).toNat,by omega⟩
  have h3:=num3_iff (tl s)
  rw [hn] at hb h3 ⊢
  rw [show leB 0 (n:Int)=true from decide_eq_true (by omega),itoa_ok (by omega)]
  simp only [gb,cond_true,Option.bind_some,Bool.true_and,bs8_list,tl_list]
  rw [Int.toNat_natCast] at h3
  congr 2
  rw [Bool.eq_iff_iff,beq_iff_eq,decide_eq_true_eq,← h3]
  exact ⟨fun e=>⟨by omega,e⟩,fun e=>e.2⟩
 ·have h3 : ¬ 0 ≤ num3 (tl s):=fun k=>h (by rw [dgs_num3 k]; exact k)
  rw [show leB 0 (dgs (tl s))=false from decide_eq_false h,decide_eq_false h3]
  rfl
end Go.Proofs.YtjdlgannencchaaGreatDoor
namespace Go.Proofs.YtjdlgannencchaaGreatDoor
set_option linter.unusedVariables false
set_option linter.unusedSimpArgs false
theorem loop_first {σ Out:Type} (L:Nat → σ → Option Out) (st:Nat → σ) (n:Nat) (P:Nat → Bool) (fv:Nat → Option Out) (out:Option Out) (hn : n ≤ 1099511627776) (hstep : ∀ k fuel,k < n → L (fuel+1) (st k)=bif P k then fv k else L fuel (st (k+1))) (hend : ∀ fuel,L (fuel+1) (st n)=out) :
  L FUEL (st 0)=match (List.range n).find? P with | some k=>fv k | none=>out:=by
 have key : ∀ j k fuel,k+j=n → j < fuel → L fuel (st k)=match (List.range' k j).find? P with | some k=>fv k | none=>out:=by
  intro j
  induction j with
  | zero =>
   intro k fuel hk hf
   obtain ⟨f,rfl⟩ : ∃ f,fuel=f+1:=⟨fuel - 1,by omega⟩
   obtain rfl : k=n:=by omega
   simpa using hend f
  | succ j ih =>
   intro k fuel hk hf
   obtain ⟨f,rfl⟩ : ∃ f,fuel=f+1:=⟨fuel - 1,by omega⟩
   rw [hstep k f (by omega),ih (k+1) f (by omega) (by omega),List.range'_succ,List.find?_cons]
   cases P k <;> simp
 rw [key n 0 FUEL (by omega) (fuel_gt hn),List.range_eq_range']
abbrev Pm:=List (Int×Int)
abbrev Wk:=List Bool×List Bool×Pm
def fnd (l:Pm) (p:Int×Int):Int:=match (List.range l.length).find? (fun k=>(l.getD k (0,0)).1 == p.1 && (l.getD k (0,0)).2 == p.2) with | some k=>(k:Int) | none=>-1
theorem fnd_spec (l:Pm) (p:Int×Int):(fnd l p=-1∧p ∉ l) ∨ (∃ k,k < l.length∧fnd l p=(k:Int)∧l.getD k (0,0)=p∧∀ j,j < k → l.getD j (0,0) ≠ p):=by
 unfold fnd
 cases h:(List.range l.length).find? (fun k=>(l.getD k (0,0)).1 == p.1 && (l.getD k (0,0)).2 == p.2) with
 | none =>
  left
  refine ⟨rfl,fun hp=>?_⟩
  obtain ⟨k,hk,rfl⟩:=List.mem_iff_getElem.1 hp
  have:=List.find?_eq_none.1 h k (by simpa using hk)
  rw [getD_ge hk] at this
  simp at this
 | some k =>
  right
  obtain ⟨h1,h2,h3⟩:=List.find?_range_eq_some.1 h
  have hk : k < l.length:=by simpa using h2
  simp only [Bool.and_eq_true,beq_iff_eq] at h1
  refine ⟨k,hk,rfl,Prod.ext h1.1 h1.2,fun j hj e=>?_⟩
  have:=h3 j hj
  rw [e] at this
  simp at this
theorem fnd_mem {l:Pm} {p:Int×Int} : leB 0 (fnd l p)=decide (p ∈ l):=by
 rcases fnd_spec l p with ⟨h1,h2⟩ | ⟨k,hk,h1,h2,h3⟩
 ·rw [h1]; simp [leB,h2]
 ·have : p ∈ l:=by rw [← h2,getD_ge hk]; exact List.getElem_mem hk
  rw [h1]; simp [leB,this]
theorem mem_take_get {l:Pm} {p:Int×Int} {k:Nat} : p ∈ l.take k ↔ ∃ j,j < k∧j < l.length∧l.getD j (0,0)=p:=by
 constructor
 ·intro h
  obtain ⟨j,hj,rfl⟩:=List.mem_iff_getElem.1 h
  have hj' : j < k∧j < l.length:=by rw [List.length_take] at hj; omega
  exact ⟨j,hj'.1,hj'.2,by rw [getD_ge hj'.2]; simp⟩
 ·rintro ⟨j,h1,h2,rfl⟩
  rw [getD_ge h2]
  exact List.mem_iff_getElem.2 ⟨j,by simp; omega,by simp⟩
theorem fnd_take {l:Pm} {k:Nat} (hk : k < l.length) : ltB (fnd l (l.getD k (0,0))) (k:Int)=decide (l.getD k (0,0) ∈ l.take k):=by
 rcases fnd_spec l (l.getD k (0,0)) with ⟨h1,h2⟩ | ⟨i,hi,h1,h2,h3⟩
 ·exact absurd (by rw [getD_ge hk]; exact List.getElem_mem hk) h2
 ·rw [h1]
  have hle : i ≤ k:=by
   rcases Nat.lt_or_ge k i with h | h
   ·exact absurd rfl (h3 k h)
   ·exact h
  rcases Nat.lt_or_ge i k with h | h
  ·have : l.getD k (0,0) ∈ l.take k:=mem_take_get.2 ⟨i,h,hi,h2⟩
   rw [decide_eq_true this]; exact decide_eq_true (by omega)
  ·obtain rfl : i=k:=by omega
   have : ¬ l.getD i (0,0) ∈ l.take i:=fun hm=>by
    obtain ⟨j,j1,j2,j3⟩:=mem_take_get.1 hm
    exact h3 j j1 j3
   rw [decide_eq_false this]; exact decide_eq_false (by omega)
def pmOk (on earth:List Bool) (pm:Pm) (k:Nat):Bool :=
 inB (pm.getD k (0,0)).1 0 9 && (decide (0 ≤ (pm.getD k (0,0)).2) && decide ((pm.getD k (0,0)).2 < (on.length:Int))) && earth.getD (pm.getD k (0,0)).2.toNat false && !decide (pm.getD k (0,0) ∈ pm.take k)
def workV (on earth:List Bool) (pm:Pm):Bool :=
 inB (on.length:Int) 1 10 && (earth.length == on.length) && decide (pm.length ≤ 6) && (!(List.range on.length).any fun k=>on.getD k false && earth.getD k false) && !(List.range pm.length).any fun k=>!pmOk on earth pm k
structure WorkOk (on earth:List Bool) (pm:Pm):Prop where
 l0 : 1 ≤ on.length
 l1 : on.length ≤ 10
 le : earth.length=on.length
 lp : pm.length ≤ 6
 ne : ∀ k,on.getD k false=true → earth.getD k false=false
 pm : ∀ k,k < pm.length → (0 ≤ (pm.getD k (0,0)).1∧(pm.getD k (0,0)).1 ≤ 9)∧(0 ≤ (pm.getD k (0,0)).2∧(pm.getD k (0,0)).2 < (on.length:Int))∧earth.getD (pm.getD k (0,0)).2.toNat false=true∧pm.getD k (0,0) ∉ pm.take k
theorem pmOk_iff {on earth:List Bool} {pm:Pm} {k:Nat} : pmOk on earth pm k=true ↔ (0 ≤ (pm.getD k (0,0)).1∧(pm.getD k (0,0)).1 ≤ 9)∧(0 ≤ (pm.getD k (0,0)).2∧(pm.getD k (0,0)).2 < (on.length:Int))∧earth.getD (pm.getD k (0,0)).2.toNat false=true∧pm.getD k (0,0) ∉ pm.take k:=by
 simp only [pmOk,Bool.and_eq_true,inB_iff,decide_eq_true_eq,Bool.not_eq_true',decide_eq_false_iff_not,and_assoc]
theorem any_f {n:Nat} {f:Nat → Bool}:(!(List.range n).any f)=true ↔ ∀ k,k < n → f k=false:=by
 rw [Bool.not_eq_true',List.any_eq_false]
 simp only [List.mem_range,Bool.not_eq_true]
theorem workV_iff {on earth:List Bool} {pm:Pm} : workV on earth pm=true ↔ WorkOk on earth pm:=by
 unfold workV
 rw [Bool.and_eq_true,any_f,Bool.and_eq_true,any_f,Bool.and_eq_true,Bool.and_eq_true,inB_iff,beq_iff_eq,decide_eq_true_eq]
 constructor
 ·rintro ⟨⟨⟨⟨h1,h2⟩,h3⟩,h4⟩,h5⟩
  refine ⟨by omega,by omega,h2,h3,fun k hk=>?_,fun k hk=>pmOk_iff.1 (by have:=h5 k hk; simpa using this)⟩
  by_cases hl : k < on.length
  ·have:=h4 k hl
   rw [hk] at this
   simpa using this
  ·simp [List.getD,List.getElem?_eq_none (Nat.le_of_not_lt hl)] at hk
 ·intro h
  have:=h.l0; have:=h.l1
  refine ⟨⟨⟨⟨by omega,h.le⟩,h.lp⟩,fun k hk=>?_⟩,fun k hk=>by rw [pmOk_iff.2 (h.pm k hk)]; rfl⟩
  cases ho : on.getD k false
  ·rfl
  ·rw [h.ne k ho]; rfl
theorem inB10 (n:Int) : inB n 1 10=(!ltB n 1 && !ltB 10 n):=by rw [Bool.eq_iff_iff]; simp [inB,ltB]
theorem lt6 (n:Nat) : ltB 6 (n:Int)=!decide (n ≤ 6):=by rw [Bool.eq_iff_iff]; simp [ltB]; omega
theorem bne_len (a b:Nat):((a:Int) != (b:Int))=!(a == b):=by rw [Bool.eq_iff_iff]; simp; omega
def heldOf (pm:Pm) (line:Int):List Int:=(pm.filter (·.2 == line)).map (·.1)
theorem held_step {pm:Pm} {line:Int} {k:Nat} (hk : k < pm.length) : heldOf (pm.take (k+1)) line=if (pm.getD k (0,0)).2 == line then heldOf (pm.take k) line++[(pm.getD k (0,0)).1] else heldOf (pm.take k) line:=by
 unfold heldOf
 rw [List.take_succ_eq_append_getElem hk,List.filter_append,List.map_append,getD_ge hk]
 cases h : pm[k].2 == line <;> simp [h]
theorem held_len (pm:Pm) (line:Int):(heldOf pm line).length ≤ pm.length:=by
 unfold heldOf; rw [List.length_map]; exact List.length_filter_le _ _
def wkMay (w:Wk) (kd a who:Int):Bool :=
 if kd=0 ∨ kd=2 then !w.1.getD a.toNat false && !w.2.1.getD a.toNat false
 else if kd=1 then w.1.getD a.toNat false
 else if kd=3 then w.2.1.getD a.toNat false && decide (heldOf w.2.2 a=[])
 else if kd=4 then w.2.1.getD a.toNat false && (inB who 0 9 && !decide ((who,a) ∈ w.2.2) && decide (w.2.2.length < 6))
 else if kd=5 then decide ((who,a) ∈ w.2.2)
 else false
def wkPut (w:Wk) (kd a who:Int):Wk :=
 if kd=0 then (w.1.set a.toNat true,w.2.1,w.2.2)
 else if kd=1 then (w.1.set a.toNat false,w.2.1,w.2.2)
 else if kd=2 then (w.1,w.2.1.set a.toNat true,w.2.2)
 else if kd=3 then (w.1,w.2.1.set a.toNat false,w.2.2)
 else if kd=4 then (w.1,w.2.1,w.2.2++[(who,a)])
 else (w.1,w.2.1,w.2.2.take (fnd w.2.2 (who,a)).toNat++w.2.2.drop ((fnd w.2.2 (who,a)).toNat+1))
def wkDo (w:Wk) (kd a who:Int):Wk×Bool :=
 if workV w.1 w.2.1 w.2.2 then (if 0 ≤ a∧a < (w.1.length:Int)∧wkMay w kd a who=true then (wkPut w kd a who,true) else (w,false)) else (([],[],[]),false)
def out4w (r:Wk×Bool):List Bool×List Bool×Pm×Bool:=(r.1.1,r.1.2.1,r.1.2.2,r.2)
theorem nil_dec (l:List Int):((l.length:Int) == 0)=decide (l=[]):=by cases l <;> simp; omega
theorem put_len (w:Wk) (kd a who:Int):(wkPut w kd a who).1.length=w.1.length∧(wkPut w kd a who).2.1.length=w.2.1.length∧(wkPut w kd a who).2.2.length ≤ w.2.2.length+1:=by
 unfold wkPut
 repeat' split
 all_goals simp
 omega
def wkStep (s:Int×Wk) (d:Int×Int×Int):Int×Wk:=if (wkDo s.2 d.1 d.2.1 d.2.2).2=true then (s.1+1,(wkDo s.2 d.1 d.2.1 d.2.2).1) else s
end Go.Proofs.YtjdlgannencchaaGreatDoor
namespace Go.Proofs.YtjdlgannencchaaGreatDoor
set_option linter.unusedVariables false
set_option linter.unusedSimpArgs false
theorem gset {α:Type} {l:List α} {k:Nat} {y d : α} (hk : k < l.length):(l.set k y).getD k d=y:=by simp [List.getD,hk]
theorem gset_ne {α:Type} {l:List α} {i j:Nat} {y d : α} (h : i ≠ j):(l.set i y).getD j d=l.getD j d:=by simp [List.getD,List.getElem?_set_ne h]
theorem gout {α:Type} {l:List α} {k:Nat} {d : α} (h : l.length ≤ k) : l.getD k d=d:=by simp [List.getD,List.getElem?_eq_none h]
structure WOk (w:Wk):Prop where
 l0 : 1 ≤ w.1.length
 l1 : w.1.length ≤ 10
 le : w.2.1.length=w.1.length
 lp : w.2.2.length ≤ 6
 ne : ∀ k,w.1.getD k false=true → w.2.1.getD k false=false
 pm : ∀ p ∈ w.2.2,(0 ≤ p.1∧p.1 ≤ 9)∧(0 ≤ p.2∧p.2 < (w.1.length:Int))∧w.2.1.getD p.2.toNat false=true
 nd : w.2.2.Nodup
theorem wok_iff {w:Wk} : workV w.1 w.2.1 w.2.2=true ↔ WOk w:=by
 rw [workV_iff]
 constructor
 ·intro h
  refine ⟨h.l0,h.l1,h.le,h.lp,h.ne,fun p hp=>?_,?_⟩
  ·obtain ⟨k,hk,rfl⟩:=List.mem_iff_getElem.1 hp
   have:=h.pm k hk
   rw [getD_ge hk] at this
   exact ⟨this.1,this.2.1,this.2.2.1⟩
  ·rw [List.nodup_iff_pairwise_ne,List.pairwise_iff_getElem]
   intro i j hi hj hij e
   refine (h.pm j hj).2.2.2 (mem_take_get.2 ⟨i,hij,hi,?_⟩)
   rw [getD_ge hi,getD_ge hj,e]
 ·intro h
  refine ⟨h.l0,h.l1,h.le,h.lp,h.ne,fun k hk=>?_⟩
  have hm:=h.pm (w.2.2.getD k (0,0)) (by rw [getD_ge hk]; exact List.getElem_mem hk)
  refine ⟨hm.1,hm.2.1,hm.2.2,fun ht=>?_⟩
  obtain ⟨j,h1,h2,h3⟩:=mem_take_get.1 ht
  have hp:=h.nd
  rw [List.nodup_iff_pairwise_ne,List.pairwise_iff_getElem] at hp
  rw [getD_ge h2,getD_ge hk] at h3
  exact hp j k h2 hk h1 h3
theorem ret_split {w:Wk} {a who:Int} (hm:(who,a) ∈ w.2.2) : ∃ A B,w.2.2=A++(who,a) :: B∧wkPut w 5 a who=(w.1,w.2.1,A++B):=by
 rcases fnd_spec w.2.2 (who,a) with ⟨h1,h2⟩ | ⟨k,hk,h1,h2,h3⟩
 ·exact absurd hm h2
 refine ⟨w.2.2.take k,w.2.2.drop (k+1),?_,?_⟩
 ·rw [← h2,getD_ge hk]; simp
 ·unfold wkPut
  rw [if_neg (by decide),if_neg (by decide),if_neg (by decide),if_neg (by decide),if_neg (by decide),h1,Int.toNat_natCast]
theorem held_mem {pm:Pm} {line x:Int} : x ∈ heldOf pm line ↔ (x,line) ∈ pm:=by
 simp only [heldOf,List.mem_map,List.mem_filter,beq_iff_eq]
 constructor
 ·rintro ⟨p,⟨h1,h2⟩,h3⟩
  rw [← h3,← h2]; exact h1
 ·intro h; exact ⟨(x,line),⟨h,rfl⟩,rfl⟩
theorem nd_mid {A B:Pm} {p:Int×Int} (h:(A++p :: B).Nodup):(A++B).Nodup∧p ∉ A++B:=by
 rw [List.nodup_append] at h
 obtain ⟨h1,h2,h3⟩:=h
 rw [List.nodup_cons] at h2
 refine ⟨List.nodup_append.2 ⟨h1,h2.2,fun a ha b hb=>h3 a ha b (by simp [hb])⟩,fun hm=>?_⟩
 rcases List.mem_append.1 hm with hm | hm
 ·exact h3 p hm p (by simp) rfl
 ·exact h2.1 hm
theorem put_ok {w:Wk} {kd a who:Int} (h:WOk w) (ha : 0 ≤ a∧a < (w.1.length:Int)) (hm : wkMay w kd a who=true):WOk (wkPut w kd a who)∧wkPut w kd a who ≠ w∧wkMay (wkPut w kd a who) kd a who=false:=by
 have hal : a.toNat < w.1.length:=by omega
 have hae : a.toNat < w.2.1.length:=by have:=h.le; omega
 by_cases k0 : kd=0
 ·subst k0
  have hm : w.1.getD a.toNat false=false∧w.2.1.getD a.toNat false=false:=by simpa only [wkMay,true_or,if_true,Bool.and_eq_true,Bool.not_eq_true'] using hm
  have e : wkPut w 0 a who=(w.1.set a.toNat true,w.2.1,w.2.2):=rfl
  rw [e]
  refine ⟨⟨by simpa using h.l0,by simpa using h.l1,by simpa using h.le,h.lp,fun k hk=>?_,fun p hp=>by simpa using h.pm p hp,h.nd⟩,fun hc=>?_,?_⟩
  ·by_cases hka : a.toNat=k
   ·rw [← hka]; exact hm.2
   ·exact h.ne k (by rwa [gset_ne hka] at hk)
  ·have:=congrArg (fun w:Wk=>w.1.getD a.toNat false) hc
   simp only [gset hal,hm.1] at this
   cases this
  ·simp only [wkMay,true_or,if_true,gset hal]; rfl
 by_cases k1 : kd=1
 ·subst k1
  have hm : w.1.getD a.toNat false=true:=hm
  have e : wkPut w 1 a who=(w.1.set a.toNat false,w.2.1,w.2.2):=rfl
  rw [e]
  refine ⟨⟨by simpa using h.l0,by simpa using h.l1,by simpa using h.le,h.lp,fun k hk=>?_,fun p hp=>by simpa using h.pm p hp,h.nd⟩,fun hc=>?_,?_⟩
  ·by_cases hka : a.toNat=k
   ·rw [← hka] at hk; rw [gset hal] at hk; cases hk
   ·exact h.ne k (by rwa [gset_ne hka] at hk)
  ·have:=congrArg (fun w:Wk=>w.1.getD a.toNat false) hc
   simp only [gset hal,hm] at this
   cases this
  ·exact gset hal
 by_cases k2 : kd=2
 ·subst k2
  have hm : w.1.getD a.toNat false=false∧w.2.1.getD a.toNat false=false:=by simpa only [wkMay,or_true,if_true,Bool.and_eq_true,Bool.not_eq_true'] using hm
  have e : wkPut w 2 a who=(w.1,w.2.1.set a.toNat true,w.2.2):=rfl
  rw [e]
  refine ⟨⟨h.l0,h.l1,by simpa using h.le,h.lp,fun k hk=>?_,fun p hp=>?_,h.nd⟩,fun hc=>?_,?_⟩
  ·by_cases hka : a.toNat=k
   ·rw [← hka] at hk; rw [hm.1] at hk; cases hk
   ·rw [gset_ne hka]; exact h.ne k hk
  ·obtain ⟨p1,p2,p3⟩:=h.pm p hp
   refine ⟨p1,p2,?_⟩
   by_cases hka : a.toNat=p.2.toNat
   ·rw [← hka,gset hae]
   ·rw [gset_ne hka]; exact p3
  ·have:=congrArg (fun w:Wk=>w.2.1.getD a.toNat false) hc
   simp only [gset hae,hm.2] at this
   cases this
  ·simp only [wkMay,or_true,if_true,gset hae]; simp
 by_cases k3 : kd=3
 ·subst k3
  have hm : w.2.1.getD a.toNat false=true∧heldOf w.2.2 a=[]:=by
   have:(w.2.1.getD a.toNat false && decide (heldOf w.2.2 a=[]))=true:=hm
   simpa only [Bool.and_eq_true,decide_eq_true_eq] using this
  have e : wkPut w 3 a who=(w.1,w.2.1.set a.toNat false,w.2.2):=rfl
  rw [e]
  refine ⟨⟨h.l0,h.l1,by simpa using h.le,h.lp,fun k hk=>?_,fun p hp=>?_,h.nd⟩,fun hc=>?_,?_⟩
  ·by_cases hka : a.toNat=k
   ·rw [← hka,gset hae]
   ·rw [gset_ne hka]; exact h.ne k hk
  ·obtain ⟨p1,p2,p3⟩:=h.pm p hp
   refine ⟨p1,p2,?_⟩
   have hka : a.toNat ≠ p.2.toNat:=fun hka=>by
    have hpa : p.2=a:=by omega
    have : p.1 ∈ heldOf w.2.2 a:=held_mem.2 (by rw [← hpa]; exact hp)
    rw [hm.2] at this; simp at this
   rw [gset_ne hka]; exact p3
  ·have:=congrArg (fun w:Wk=>w.2.1.getD a.toNat false) hc
   simp only [gset hae,hm.1] at this
   cases this
  ·show ((w.2.1.set a.toNat false).getD a.toNat false && _)=false
   rw [gset hae]; rfl
 by_cases k4 : kd=4
 ·subst k4
  have hm : w.2.1.getD a.toNat false=true∧(0 ≤ who∧who ≤ 9)∧(who,a) ∉ w.2.2∧w.2.2.length < 6:=by
   have:(w.2.1.getD a.toNat false && (inB who 0 9 && !decide ((who,a) ∈ w.2.2) && decide (w.2.2.length < 6)))=true:=hm
   simp only [Bool.and_eq_true,decide_eq_true_eq,inB_iff,Bool.not_eq_true',decide_eq_false_iff_not] at this
   exact ⟨this.1,this.2.1.1,this.2.1.2,this.2.2⟩
  have e : wkPut w 4 a who=(w.1,w.2.1,w.2.2++[(who,a)]):=rfl
  rw [e]
  refine ⟨⟨h.l0,h.l1,h.le,by simp; omega,h.ne,fun p hp=>?_,?_⟩,fun hc=>?_,?_⟩
  ·rcases List.mem_append.1 hp with hp | hp
   ·exact h.pm p hp
   ·have hp : p=(who,a):=by simpa using hp
    subst hp
    exact ⟨hm.2.1,ha,hm.1⟩
  ·refine List.nodup_append.2 ⟨h.nd,by simp,fun x hx y hy e=>?_⟩
   have hy : y=(who,a):=by simpa using hy
   rw [e,hy] at hx
   exact hm.2.2.1 hx
  ·have:=congrArg (fun w:Wk=>w.2.2.length) hc
   simp at this
  ·show (w.2.1.getD a.toNat false && (inB who 0 9 && !decide ((who,a) ∈ w.2.2++[(who,a)]) && decide ((w.2.2++[(who,a)]).length < 6)))=false
   simp
 by_cases k5 : kd=5
 ·subst k5
  have hmem:(who,a) ∈ w.2.2:=by
   have : decide ((who,a) ∈ w.2.2)=true:=hm
   simpa using this
  obtain ⟨A,B,e1,e2⟩:=ret_split hmem
  have hnd:=h.nd
  rw [e1] at hnd
  obtain ⟨n1,n2⟩:=nd_mid hnd
  rw [e2]
  have hlp:=h.lp
  rw [e1] at hlp
  refine ⟨⟨h.l0,h.l1,h.le,by simp at hlp ⊢; omega,h.ne,fun p hp=>h.pm p ?_,n1⟩,fun hc=>?_,?_⟩
  ·rw [e1]
   rcases List.mem_append.1 hp with hp | hp
   ·simp [hp]
   ·simp [hp]
  ·have:=congrArg (fun w:Wk=>w.2.2.length) hc
   rw [e1] at this
   simp at this <;> omega
  ·show decide ((who,a) ∈ A++B)=false
   exact decide_eq_false n2
 ·simp [wkMay,k0,k1,k2,k3,k4,k5] at hm
theorem do_cases {w:Wk} (h:WOk w) (kd a who:Int):(wkDo w kd a who=(wkPut w kd a who,true)∧(0 ≤ a∧a < (w.1.length:Int))∧wkMay w kd a who=true∧WOk (wkPut w kd a who)) ∨ (wkDo w kd a who=(w,false)∧¬ ((0 ≤ a∧a < (w.1.length:Int))∧wkMay w kd a who=true)):=by
 unfold wkDo
 rw [if_pos (wok_iff.2 h)]
 by_cases hc : 0 ≤ a∧a < (w.1.length:Int)∧wkMay w kd a who=true
 ·rw [if_pos hc]; exact .inl ⟨rfl,⟨hc.1,hc.2.1⟩,hc.2.2,(put_ok h ⟨hc.1,hc.2.1⟩ hc.2.2).1⟩
 ·rw [if_neg hc]; exact .inr ⟨rfl,fun hh=>hc ⟨hh.1.1,hh.1.2,hh.2⟩⟩
def retsOf (pm:Pm):List (Int×Int×Int):=pm.map fun p=>(5,p.2,p.1)
theorem rets_take {pm:Pm} {k:Nat} (hk : k < pm.length) : retsOf (pm.take (k+1))=retsOf (pm.take k)++[(5,(pm.getD k (0,0)).2,(pm.getD k (0,0)).1)]:=by
 rw [List.take_succ_eq_append_getElem hk,getD_ge hk]
 simp only [retsOf,List.map_append,List.map_cons,List.map_nil]
def forOf (kd:Int) (l:List Bool) (b:Bool):Nat → List (Int×Int×Int)
 | 0=>[]
 | k+1=>if (l.getD k false == b)=true then forOf kd l b k++[(kd,(k:Int),0)] else forOf kd l b k
theorem for_len (kd:Int) (l:List Bool) (b:Bool) : ∀ k,(forOf kd l b k).length ≤ k
 | 0=>by simp [forOf]
 | k+1=>by have:=for_len kd l b k; simp only [forOf]; split <;> simp <;> omega
theorem step_true {s:Int×Wk} {kd a who:Int} (h:WOk s.2) (ha : 0 ≤ a∧a < (s.2.1.length:Int)) (hm : wkMay s.2 kd a who=true) : wkStep s (kd,a,who)=(s.1+1,wkPut s.2 kd a who):=by
 unfold wkStep
 dsimp only
 rcases do_cases h kd a who with ⟨f1,f2,f3,f4⟩ | ⟨f1,f2⟩
 ·rw [f1,if_pos rfl]
 ·exact absurd ⟨ha,hm⟩ f2
theorem rets_run : ∀ (pm : Pm) (c : Int) (on earth : List Bool), WOk (on, earth, pm) → (retsOf pm).foldl wkStep (c, on, earth, pm) = (c + (pm.length : Int), on, earth, [])
  | [], c, on, earth, _ => by simp [retsOf]
  | p :: pm, c, on, earth, h => by
    have hm : wkMay (on, earth, p :: pm) 5 p.2 p.1 = true := by
      show decide ((p.1, p.2) ∈ p :: pm) = true
      exact decide_eq_true (by simp)
    have ha := (h.pm p (by simp)).2.1
    have hst := step_true (s := (c, on, earth, p :: pm)) h ha hm
    have hput : wkPut (on, earth, p :: pm) 5 p.2 p.1 = (on, earth, pm) := by
      rcases fnd_spec (p :: pm) (p.1, p.2) with ⟨h1, h2⟩ | ⟨k, hk, h1, h2, h3⟩
      · exact absurd (by simp) h2
      · have hk0 : k = 0 := by
          rcases Nat.eq_zero_or_pos k with h | h
          · exact h
          · exact absurd (by simp) (h3 0 h)
        subst hk0
        unfold wkPut
        rw [if_neg (by decide), if_neg (by decide), if_neg (by decide), if_neg (by decide), if_neg (by decide)]
        dsimp only
        rw [h1]; simp
    have hok := (put_ok h ha hm).1
    rw [hput] at hst hok
    show (retsOf pm).foldl wkStep (wkStep (c, on, earth, p :: pm) (5, p.2, p.1)) = _
    rw [hst, rets_run pm (c + 1) on earth hok]
    simp; omega
theorem rep_set {l:List Bool} {b:Bool} {k:Nat} (hk : k < l.length):(List.replicate k b++l.drop k).set k b=List.replicate (k+1) b++l.drop (k+1):=by
 rw [List.set_append_right _ _ (by simp),List.length_replicate,Nat.sub_self,List.drop_eq_getElem_cons hk,List.set_cons_zero,List.replicate_succ',List.append_assoc]; rfl
theorem rep_get {l:List Bool} {b:Bool} {k:Nat} (hk : k < l.length):(List.replicate k b++l.drop k).getD k false=l.getD k false:=by
 simp [List.getD,List.getElem?_append_right]
theorem rep_same {l:List Bool} {b:Bool} {k:Nat} (hk : k < l.length) (h : l.getD k false=b):List.replicate k b++l.drop k=List.replicate (k+1) b++l.drop (k+1):=by
 rw [← rep_set hk]
 have h2:=rep_get (b:=b) hk
 have hl : k < (List.replicate k b++l.drop k).length:=by simp; omega
 rw [getD_ge hl,h] at h2
 have e:=List.set_getElem_self hl
 rw [h2] at e
 exact e.symm
theorem clear_run {on earth:List Bool} (h:WOk (on,earth,[])) (c:Int) : ∀ k,k ≤ earth.length → (forOf 3 earth true k).foldl wkStep (c,on,earth,[])=(c+((forOf 3 earth true k).length:Int),on,List.replicate k false++earth.drop k,[])∧WOk (on,List.replicate k false++earth.drop k,[])
 | 0,_=>by simpa [forOf] using h
 | k+1,hk=>by
  obtain ⟨i1,i2⟩:=clear_run h c k (by omega)
  have hle:=h.le
  dsimp only at hle
  simp only [forOf]
  cases he : earth.getD k false
  ·simp only [show (false == true)=false from rfl,Bool.false_eq_true,if_false]
   rw [← rep_same (by omega) he]
   exact ⟨i1,i2⟩
  ·simp only [beq_self_eq_true,if_true,List.foldl_append,List.foldl_cons,List.foldl_nil,i1,List.length_append,List.length_singleton]
   have hm : wkMay (on,List.replicate k false++earth.drop k,[]) 3 (k:Int) 0=true:=by
    show ((List.replicate k false++earth.drop k).getD (k:Int).toNat false && decide (heldOf [] (k:Int)=[]))=true
    rw [Int.toNat_natCast,rep_get (by omega),he]; rfl
   have ha : 0 ≤ (k:Int)∧(k:Int) < (on.length:Int):=by omega
   have hst:=step_true (s:=(c+((forOf 3 earth true k).length:Int),on,List.replicate k false++earth.drop k,[])) i2 ha hm
   have hput : wkPut (on,List.replicate k false++earth.drop k,[]) 3 (k:Int) 0=(on,List.replicate (k+1) false++earth.drop (k+1),[]):=by
    show (on,(List.replicate k false++earth.drop k).set (k:Int).toNat false,[])=_
    rw [Int.toNat_natCast,rep_set (by omega)]
   have hok:=(put_ok i2 ha hm).1
   dsimp only at hst
   rw [hput] at hst hok
   rw [hst]
   refine ⟨?_,hok⟩
   congr 1
   omega
end Go.Proofs.YtjdlgannencchaaGreatDoor
namespace Go.Proofs.YtjdlgannencchaaGreatDoor
set_option linter.unusedVariables false
set_option linter.unusedSimpArgs false
inductive Cn (E:List (Nat×Nat)):Nat → Nat → Prop
 | refl (a:Nat):Cn E a a
 | step {a b c:Nat}:Cn E a b → (b,c) ∈ E ∨ (c,b) ∈ E → Cn E a c
theorem Cn.trans {E:List (Nat×Nat)} {a b c:Nat} (h:Cn E a b) (k:Cn E b c):Cn E a c:=by
 induction k with
 | refl=>exact h
 | step _ e ih=>exact ih.step e
theorem Cn.one {E:List (Nat×Nat)} {a b:Nat} (h:(a,b) ∈ E ∨ (b,a) ∈ E):Cn E a b:=(Cn.refl a).step h
theorem Cn.symm {E:List (Nat×Nat)} {a b:Nat} (h:Cn E a b):Cn E b a:=by
 induction h with
 | refl=>exact .refl _
 | step _ e ih=>exact (Cn.one e.symm).trans ih
theorem Cn.mono {E F:List (Nat×Nat)} (hEF : ∀ e ∈ E,e ∈ F) {a b:Nat} (h:Cn E a b):Cn F a b:=by
 induction h with
 | refl=>exact .refl _
 | step _ e ih=>exact ih.step (e.imp (hEF _) (hEF _))
theorem cn_snoc {E:List (Nat×Nat)} {x y a b:Nat}:Cn (E++[(x,y)]) a b ↔ Cn E a b ∨ (Cn E a x∧Cn E y b) ∨ (Cn E a y∧Cn E x b):=by
 have hm : ∀ {a b:Nat},Cn E a b → Cn (E++[(x,y)]) a b:=fun h=>h.mono fun e he=>by simp [he]
 constructor
 ·intro h
  induction h with
  | refl=>exact .inl (.refl _)
  | @step b c _ e ih =>
   have he:((b,c) ∈ E ∨ (c,b) ∈ E) ∨ ((b=x∧c=y) ∨ (b=y∧c=x)):=by
    simp only [List.mem_append,List.mem_singleton,Prod.mk.injEq] at e
    rcases e with (e | e) | (e | e)
    ·exact .inl (.inl e)
    ·exact .inr (.inl e)
    ·exact .inl (.inr e)
    ·exact .inr (.inr ⟨e.2,e.1⟩)
   rcases he with he | ⟨rfl,rfl⟩ | ⟨rfl,rfl⟩
   ·rcases ih with ih | ⟨h1,h2⟩ | ⟨h1,h2⟩
    ·exact .inl (ih.step he)
    ·exact .inr (.inl ⟨h1,h2.step he⟩)
    ·exact .inr (.inr ⟨h1,h2.step he⟩)
   ·rcases ih with ih | ⟨h1,h2⟩ | ⟨h1,h2⟩
    ·exact .inr (.inl ⟨ih,.refl _⟩)
    ·exact .inr (.inl ⟨h1,.refl _⟩)
    ·exact .inl h1
   ·rcases ih with ih | ⟨h1,h2⟩ | ⟨h1,h2⟩
    ·exact .inr (.inr ⟨ih,.refl _⟩)
    ·exact .inl h1
    ·exact .inr (.inr ⟨h1,.refl _⟩)
 ·have hxy:Cn (E++[(x,y)]) x y:=.one (.inl (by simp))
  rintro (h | ⟨h1,h2⟩ | ⟨h1,h2⟩)
  ·exact hm h
  ·exact ((hm h1).trans hxy).trans (hm h2)
  ·exact ((hm h1).trans hxy.symm).trans (hm h2)
def relab (f:Nat → Nat) (a b:Nat) (c:Nat):Nat:=if f c=max (f a) (f b) then min (f a) (f b) else f c
def labs (E:List (Nat×Nat)):Nat → Nat:=E.foldl (fun f e=>relab f e.1 e.2) id
theorem labs_snoc (E:List (Nat×Nat)) (e:Nat×Nat) : labs (E++[e])=relab (labs E) e.1 e.2:=by unfold labs; rw [List.foldl_append]; rfl
theorem relab_eq (f:Nat → Nat) (x y a b:Nat) : relab f x y a=relab f x y b ↔ f a=f b ∨ (f a=f x∧f y=f b) ∨ (f a=f y∧f x=f b):=by
 unfold relab
 split <;> split <;> omega
theorem rev_ind {α:Type} {P:List α → Prop} (h0:P []) (h1 : ∀ l a,P l → P (l++[a])) : ∀ l,P l:=by
 intro l
 have : ∀ r:List α,P r.reverse:=by
  intro r
  induction r with
  | nil=>exact h0
  | cons a r ih=>rw [List.reverse_cons]; exact h1 _ _ ih
 have:=this l.reverse
 rwa [List.reverse_reverse] at this
theorem labs_cn (E:List (Nat×Nat)) : ∀ a b,labs E a=labs E b ↔ Cn E a b:=by
 refine rev_ind (P:=fun E=>∀ a b,labs E a=labs E b ↔ Cn E a b) ?_ ?_ E
 ·intro a b
  constructor
  ·intro h; have h : a=b:=h; subst h; exact .refl _
  ·intro h
   cases h with
   | refl=>rfl
   | step _ e=>simp at e
 ·intro E e ih a b
  obtain ⟨x,y⟩:=e
  rw [labs_snoc,relab_eq,ih,ih,ih,ih,ih,cn_snoc]
theorem labs_fix (E:List (Nat×Nat)):(∀ a,labs E a ≤ a)∧∀ a,labs E (labs E a)=labs E a:=by
 refine rev_ind (P:=fun E=>(∀ a,labs E a ≤ a)∧∀ a,labs E (labs E a)=labs E a) ⟨fun a=>Nat.le_refl a,fun a=>rfl⟩ ?_ E
 rintro E ⟨x,y⟩ ⟨h1,h2⟩
 rw [labs_snoc]
 refine ⟨fun a=>?_,fun a=>?_⟩
 ·have:=h1 a
  unfold relab
  split <;> omega
 ·have ha:=h2 a
  have hx:=h2 x
  have hy:=h2 y
  unfold relab
  by_cases hc : labs E a=max (labs E x) (labs E y)
  ·rw [if_pos hc]
   rcases Nat.le_total (labs E x) (labs E y) with hle | hle
   ·rw [Nat.min_eq_left hle,hx]; split <;> omega
   ·rw [Nat.min_eq_right hle,hy]; split <;> omega
  ·rw [if_neg hc,ha,if_neg hc]
def Dn (u:List Nat):Prop:=∀ b,b < u.length → u.getD b 0 ≤ b
inductive Rot (u:List Nat):Nat → Nat → Prop
 | stop {r:Nat} : u.getD r 0=r → Rot u r r
 | go {b r:Nat}:Rot u (u.getD b 0) r → Rot u b r
theorem Rot.root {u:List Nat} {b r:Nat} (h:Rot u b r) : u.getD r 0=r:=by
 induction h with
 | stop h=>exact h
 | go _ ih=>exact ih
theorem Rot.fix {u:List Nat} {b r:Nat} (h:Rot u b r) (hb : u.getD b 0=b) : r=b:=by
 induction h with
 | stop _=>rfl
 | go _ ih=>exact (ih (by rw [hb]; exact hb)).trans hb
theorem Rot.uniq {u:List Nat} {b r r':Nat} (h:Rot u b r) (h':Rot u b r') : r=r':=by
 induction h with
 | stop h=>exact (h'.fix h).symm
 | @go b r h1 ih =>
  cases h' with
  | stop h2=>exact h1.fix (by rw [h2]; exact h2) |>.trans h2
  | go h2=>exact ih h2
theorem Rot.next {u:List Nat} {b r:Nat} (h:Rot u b r):Rot u (u.getD b 0) r:=by
 cases h with
 | stop h=>rw [h]; exact .stop h
 | go h=>exact h
theorem Rot.ex {u:List Nat} (h:Dn u) : ∀ b,b < u.length → ∃ r,Rot u b r∧r ≤ b:=by
 intro b
 induction b using Nat.strongRecOn with
 | ind b ih =>
  intro hb
  by_cases hc : u.getD b 0=b
  ·exact ⟨b,.stop hc,Nat.le_refl _⟩
  ·have h1:=h b hb
   obtain ⟨r,h2,h3⟩:=ih (u.getD b 0) (by omega) (by omega)
   exact ⟨r,.go h2,by omega⟩
theorem uset_get {u:List Nat} {b v c:Nat} (hb : b < u.length):(u.set b v).getD c 0=if c=b then v else u.getD c 0:=by
 by_cases h : c=b
 ·subst h; simp [List.getD,hb]
 ·rw [if_neg h]; simp [List.getD,List.getElem?_set_ne (Ne.symm h)]
theorem Rot.halve {u:List Nat} (h:Dn u) {b:Nat} (hb : b < u.length) : ∀ c r,c < u.length → (Rot u c r → Rot (u.set b (u.getD (u.getD b 0) 0)) c r):=by
 intro c
 induction c using Nat.strongRecOn with
 | ind c ih =>
  intro r hc hr
  by_cases hf : u.getD c 0=c
  ·have e:=hr.fix hf
   subst e
   refine .stop ?_
   rw [uset_get hb]
   split
   ·rename_i e; subst e; rw [hf]; exact hf
   ·exact hf
  ·have h1:=h c hc
   refine .go ?_
   rw [uset_get hb]
   split
   ·rename_i e; subst e
    have h2:=h (u.getD c 0) (by omega)
    exact ih _ (by omega) r (by omega) hr.next.next
   ·exact ih _ (by omega) r (by omega) hr.next
theorem Dn.halve {u:List Nat} (h:Dn u) {b:Nat} (hb : b < u.length):Dn (u.set b (u.getD (u.getD b 0) 0)):=by
 intro c hc
 rw [List.length_set] at hc
 rw [uset_get hb]
 split
 ·rename_i e; subst e
  have h1:=h c hc
  have h2:=h (u.getD c 0) (by omega)
  omega
 ·exact h c hc
theorem Rot.join {u : List Nat} {f : Nat → Nat} (h : Dn u) (hf : ∀ c, c < u.length → Rot u c (f c)) {a b : Nat} (ha : a < u.length) (hb : b < u.length) (hlt : ∀ c, c < u.length → f c ≤ c) :
    ∀ c, c < u.length → Rot (u.set (max (f a) (f b)) (min (f a) (f b))) c (relab f a b c) := by
  have la := hlt a ha
  have lb := hlt b hb
  have hm : max (f a) (f b) < u.length := by omega
  have hmin : (u.set (max (f a) (f b)) (min (f a) (f b))).getD (min (f a) (f b)) 0 = min (f a) (f b) := by
    rw [uset_get hm]
    split
    · rfl
    · rcases Nat.le_total (f a) (f b) with hle | hle
      · rw [Nat.min_eq_left hle]; exact (hf a ha).root
      · rw [Nat.min_eq_right hle]; exact (hf b hb).root
  intro c
  induction c using Nat.strongRecOn with
  | ind c ih =>
    intro hc
    by_cases hcm : c = max (f a) (f b)
    · have hroot : u.getD c 0 = c := by
        rw [hcm]
        rcases Nat.le_total (f a) (f b) with hle | hle
        · rw [Nat.max_eq_right hle]; exact (hf b hb).root
        · rw [Nat.max_eq_left hle]; exact (hf a ha).root
      have hfc : f c = c := (hf c hc).fix hroot
      have e : relab f a b c = min (f a) (f b) := by unfold relab; rw [if_pos (by rw [hfc]; exact hcm)]
      rw [e]
      refine .go ?_
      rw [uset_get hm, if_pos hcm]
      exact .stop hmin
    · by_cases hroot : u.getD c 0 = c
      · have hfc : f c = c := (hf c hc).fix hroot
        have e : relab f a b c = c := by unfold relab; rw [if_neg (by rw [hfc]; exact hcm), hfc]
        rw [e]
        refine .stop ?_
        rw [uset_get hm, if_neg hcm]; exact hroot
      · have h1 := h c hc
        have e : f (u.getD c 0) = f c := (hf (u.getD c 0) (by omega)).uniq (hf c hc).next
        have e2 : relab f a b c = relab f a b (u.getD c 0) := by unfold relab; rw [e]
        rw [e2]
        refine .go ?_
        rw [uset_get hm, if_neg hcm]
        exact ih _ (by omega) (by omega)
def hit (s:Nat → Bool) (e:Nat×Nat):Nat → Bool:=if s e.1 || s e.2 then fun c=>c == e.1 || c == e.2 || s c else s
def sweep (E:List (Nat×Nat)) (s:Nat → Bool):Nat → Bool:=E.foldl hit s
def sweeps (E:List (Nat×Nat)) (s:Nat → Bool):Nat → Nat → Bool
 | 0=>s
 | k+1=>sweep E (sweeps E s k)
theorem hit_mono {s:Nat → Bool} {e:Nat×Nat} {c:Nat} (h : s c=true) : hit s e c=true:=by
 unfold hit; split <;> simp [h]
theorem sweep_mono (E:List (Nat×Nat)) : ∀ {s:Nat → Bool} {c:Nat},s c=true → sweep E s c=true:=by
 induction E with
 | nil=>intro s c h; exact h
 | cons e E ih=>intro s c h; exact ih (hit_mono h)
theorem sweep_hit (E:List (Nat×Nat)) : ∀ {s:Nat → Bool} {e:Nat×Nat},e ∈ E → (s e.1 || s e.2)=true → sweep E s e.1=true∧sweep E s e.2=true:=by
 induction E with
 | nil=>intro s e h; simp at h
 | cons d E ih =>
  intro s e h hs
  rcases List.mem_cons.1 h with rfl | h
  ·have h1 : hit s e e.1=true:=by unfold hit; rw [if_pos hs]; simp
   have h2 : hit s e e.2=true:=by unfold hit; rw [if_pos hs]; simp
   exact ⟨sweep_mono E h1,sweep_mono E h2⟩
  ·refine ih (s:=hit s d) h ?_
   rw [Bool.or_eq_true] at hs ⊢
   exact hs.imp hit_mono hit_mono
theorem sweep_sound {F:List (Nat×Nat)} {b:Nat} (E:List (Nat×Nat)) : ∀ {s:Nat → Bool},(∀ e ∈ E,e ∈ F) → (∀ c,s c=true → Cn F b c) → ∀ c,sweep E s c=true → Cn F b c:=by
 induction E with
 | nil=>intro s _ h c hc; exact h c hc
 | cons e E ih =>
  intro s hE h c hc
  refine ih (s:=hit s e) (fun x hx=>hE x (by simp [hx])) (fun c hc=>?_) c hc
  unfold hit at hc
  split at hc
  ·rename_i hs
   have he : e ∈ F:=hE e (by simp)
   have h1:Cn F b e.1∧Cn F b e.2:=by
    rw [Bool.or_eq_true] at hs
    rcases hs with hs | hs
    ·exact ⟨h _ hs,(h _ hs).step (.inl he)⟩
    ·exact ⟨(h _ hs).step (.inr he),h _ hs⟩
   simp only [Bool.or_eq_true,beq_iff_eq] at hc
   rcases hc with (rfl | rfl) | hc
   ·exact h1.1
   ·exact h1.2
   ·exact h c hc
  ·exact h c hc
theorem sweeps_sound {E : List (Nat × Nat)} {b : Nat} (k : Nat) : ∀ c, sweeps E (fun c => c == b) k c = true → Cn E b c := by
  induction k with
  | zero => intro c hc; have : c = b := by simpa [sweeps] using hc
            subst this; exact .refl _
  | succ k ih => exact sweep_sound E (fun _ h => h) ih
theorem count_lt {p q:Nat → Bool} (l:List Nat) (h : ∀ c,p c=true → q c=true) : l.countP p ≤ l.countP q∧((∃ c ∈ l,q c=true∧p c=false) → l.countP p+1 ≤ l.countP q):=by
 induction l with
 | nil=>exact ⟨Nat.le_refl _,fun ⟨c,hc,_⟩=>by simp at hc⟩
 | cons x l ih =>
  simp only [List.countP_cons]
  have hx:=h x
  refine ⟨?_,?_⟩
  ·cases hp : p x
   ·simp; omega
   ·rw [hx hp]; simp; omega
  ·rintro ⟨c,hc,h1,h2⟩
   rcases List.mem_cons.1 hc with rfl | hc
   ·rw [h1,h2]; simp; omega
   ·have:=ih.2 ⟨c,hc,h1,h2⟩
    cases hp : p x
    ·simp; omega
    ·rw [hx hp]; simp; omega
def Shut (E:List (Nat×Nat)) (s:Nat → Bool):Prop:=∀ e ∈ E,s e.1=s e.2
theorem shut_stays {E:List (Nat×Nat)} {s:Nat → Bool} (h:Shut E s) : ∀ c,sweep E s c=s c:=by
 have : ∀ (F:List (Nat×Nat)),(∀ e ∈ F,s e.1=s e.2) → sweep F s=s:=by
  intro F
  induction F with
  | nil=>intro _; rfl
  | cons e F ih =>
   intro hF
   have he : hit s e=s:=by
    have e0:=hF e (by simp)
    unfold hit
    split
    ·rename_i hs
     funext c
     rw [e0,Bool.or_self] at hs
     by_cases h1 : c=e.1
     ·subst h1; simp [e0,hs]
     ·by_cases h2 : c=e.2
      ·subst h2; simp [hs]
      ·simp [h1,h2]
    ·rfl
   show sweep F (hit s e)=s
   rw [he]
   exact ih fun x hx=>hF x (by simp [hx])
 intro c; rw [this E h]
theorem sweeps_shut {E:List (Nat×Nat)} {B b:Nat} (hE : ∀ e ∈ E,e.1 < B∧e.2 < B) (hb : b < B) : ∀ k,Shut E (sweeps E (fun c=>c == b) k) ∨ k+1 ≤ (List.range B).countP (sweeps E (fun c=>c == b) k):=by
 intro k
 induction k with
 | zero =>
  refine .inr ?_
  have:=List.countP_pos_iff (p:=fun c=>c == b) (l:=List.range B) |>.2 ⟨b,by simpa using hb,by simp⟩
  simpa [sweeps] using this
 | succ k ih =>
  by_cases hs:Shut E (sweeps E (fun c=>c == b) k)
  ·left
   have e : sweeps E (fun c=>c == b) (k+1)=sweeps E (fun c=>c == b) k:=funext (shut_stays hs)
   rw [e]; exact hs
  ·rcases ih with ih | ih
   ·exact absurd ih hs
   right
   have hm : ∀ c,sweeps E (fun c=>c == b) k c=true → sweeps E (fun c=>c == b) (k+1) c=true:=fun c hc=>sweep_mono E hc
   obtain ⟨e,he,hne⟩ : ∃ e ∈ E,sweeps E (fun c=>c == b) k e.1 ≠ sweeps E (fun c=>c == b) k e.2:=by
    refine Classical.byContradiction fun hn=>hs fun e he=>Classical.byContradiction fun h=>hn ⟨e,he,h⟩
   have hor:(sweeps E (fun c=>c == b) k e.1 || sweeps E (fun c=>c == b) k e.2)=true:=by
    revert hne; cases sweeps E (fun c=>c == b) k e.1 <;> cases sweeps E (fun c=>c == b) k e.2 <;> simp
   have hh:=sweep_hit E he hor
   have hlt:=hE e he
   have:=(count_lt (List.range B) hm).2 (by
    cases h1 : sweeps E (fun c=>c == b) k e.1
    ·exact ⟨e.1,by simpa using hlt.1,hh.1,h1⟩
    ·cases h2 : sweeps E (fun c=>c == b) k e.2
     ·exact ⟨e.2,by simpa using hlt.2,hh.2,h2⟩
     ·rw [h1,h2] at hne; exact absurd rfl hne)
   omega
theorem sweeps_cn {E:List (Nat×Nat)} {B b c:Nat} (hE : ∀ e ∈ E,e.1 < B∧e.2 < B) (hb : b < B) : sweeps E (fun c=>c == b) B c=true ↔ Cn E b c:=by
 refine ⟨sweeps_sound B c,fun h=>?_⟩
 have hs:Shut E (sweeps E (fun c=>c == b) B):=by
  rcases sweeps_shut hE hb B with h | h
  ·exact h
  ·have:=List.countP_le_length (p:=sweeps E (fun c=>c == b) B) (l:=List.range B)
   simp at this; omega
 have hstart : ∀ k,sweeps E (fun c=>c == b) k b=true:=by
  intro k
  induction k with
  | zero=>simp [sweeps]
  | succ k ih=>exact sweep_mono E ih
 induction h with
 | refl=>exact hstart B
 | step _ e ih =>
  rcases e with e | e
  ·rw [← hs _ e]; exact ih
  ·rw [hs _ e]; exact ih
end Go.Proofs.YtjdlgannencchaaGreatDoor
namespace Go.Proofs.YtjdlgannencchaaGreatDoor
set_option linter.unusedVariables false
set_option linter.unusedSimpArgs false
abbrev Ed:=List (Nat×Nat)
def Fo (E:Ed):Prop:=∀ P e Q,E=P++e :: Q → ¬ Cn P e.1 e.2
theorem fo_nil:Fo []:=by
 intro P e Q h
 have:=congrArg List.length h
 simp at this
theorem fo_snoc {E:Ed} {e:Nat×Nat}:Fo (E++[e]) ↔ Fo E∧¬ Cn E e.1 e.2:=by
 constructor
 ·intro h
  exact ⟨fun P f Q hE=>h P f (Q++[e]) (by rw [hE]; simp),h E e [] rfl⟩
 ·rintro ⟨h1,h2⟩ P f Q hE
  rcases List.eq_nil_or_concat Q with rfl | ⟨Q',x,rfl⟩
  ·obtain ⟨rfl,h3⟩:=List.append_inj' hE rfl
   obtain rfl : e=f:=by simpa using h3
   exact h2
  ·have hE':E++[e]=(P++f :: Q')++[x]:=by rw [hE]; simp
   obtain ⟨rfl,h3⟩:=List.append_inj' hE' rfl
   exact h1 P f Q' rfl
theorem fo_rm : ∀ (Q P:Ed) (e:Nat×Nat),Fo (P++e :: Q) → ¬ Cn (P++Q) e.1 e.2:=by
 refine rev_ind (P:=fun Q=>∀ (P:Ed) (e:Nat×Nat),Fo (P++e :: Q) → ¬ Cn (P++Q) e.1 e.2) ?_ ?_
 ·intro P e h
  rw [List.append_nil]; exact h P e [] rfl
 ·rintro Q ⟨x,y⟩ ih P e h hc
  have h':Fo ((P++e :: Q)++[(x,y)]):=by simpa using h
  rw [fo_snoc] at h'
  have hn:=ih P e h'.1
  have M : ∀ {a b:Nat},Cn (P++Q) a b → Cn (P++e :: Q) a b:=fun h=>h.mono fun f hf=>by
   rcases List.mem_append.1 hf with hf | hf <;> simp [hf]
  have he:Cn (P++e :: Q) e.1 e.2:=.one (.inl (by simp))
  rw [← List.append_assoc,cn_snoc] at hc
  rcases hc with hc | ⟨h1,h2⟩ | ⟨h1,h2⟩
  ·exact hn hc
  ·exact h'.2 ((M h1).symm.trans (he.trans (M h2).symm))
  ·exact h'.2 ((M h2).trans (he.symm.trans (M h1)))
theorem fo_sub {E F:Ed} (hs:E.Sublist F) (h:Fo F):Fo E:=by
 intro P e Q hE hc
 subst hE
 obtain ⟨F1,F2,rfl,s1,s2⟩:=List.append_sublist_iff.1 hs
 obtain ⟨G1,G2,rfl,m1,m2⟩:=List.cons_sublist_iff.1 s2
 obtain ⟨H1,H2,rfl⟩:=List.append_of_mem m1
 refine h (F1++H1) e (H2++G2) (by simp) (hc.mono fun f hf=>?_)
 simp [s1.subset hf]
abbrev Ln:=Int×Int×Int
def edgeE (l:Ln):Nat×Nat:=(l.1.toNat,l.2.1.toNat)
def onL (z:List (Ln×Bool)):Ed:=(z.filter (·.2)).map fun p=>edgeE p.1
def onE (ls:List Ln) (on:List Bool):Ed:=onL (ls.zip on)
theorem onL_app (y z:List (Ln×Bool)) : onL (y++z)=onL y++onL z:=by simp [onL]
theorem onL_step {z:List (Ln×Bool)} {k:Nat} (hk : k < z.length) : onL (z.take (k+1))=if z[k].2 then onL (z.take k)++[edgeE z[k].1] else onL (z.take k):=by
 rw [List.take_succ_eq_append_getElem hk,onL_app]
 cases h : z[k].2 <;> simp [onL,h]
theorem onL_cut {z:List (Ln×Bool)} {k:Nat} (hk : k < z.length) : z=z.take k++z[k] :: z.drop (k+1):=by
 rw [← List.drop_eq_getElem_cons hk,List.take_append_drop]
theorem onE_cut {ls:List Ln} {on:List Bool} {k:Nat} (hk : k < ls.length) (hl : on.length=ls.length) (ho : on.getD k false=true) :
  onE ls on=onL ((ls.zip on).take k)++edgeE (ls.getD k (0,0,0)) :: onL ((ls.zip on).drop (k+1)):=by
 have hz : k < (ls.zip on).length:=by simp; omega
 have e:(ls.zip on)[k]=(ls.getD k (0,0,0),true):=by
  rw [getD_ge (by omega : k < on.length)] at ho
  rw [List.getElem_zip,getD_ge hk,ho]
 have h:=onL_cut hz
 unfold onE
 rw [e] at h
 conv=>lhs; rw [h]
 rw [onL_app]
 simp [onL]
theorem onE_off {ls:List Ln} {on:List Bool} {k:Nat} (hk : k < ls.length) (hl : on.length=ls.length) :
  onE ls (on.set k false)=onL ((ls.zip on).take k)++onL ((ls.zip on).drop (k+1)):=by
 have e : ls.zip (on.set k false)=(ls.zip on).take k++(ls[k],false) :: (ls.zip on).drop (k+1):=by
  apply List.ext_getElem
  ·simp; omega
  ·intro i h1 h2
   have hi : i < ls.length:=by simp at h1; omega
   rw [List.getElem_zip,List.getElem_set,List.getElem_append]
   have hkz:((ls.zip on).take k).length=k:=by simp; omega
   split
   ·rename_i hik
    subst hik
    simp [hkz]
   ·split
    ·simp
    ·rename_i h3 h4
     rw [hkz] at h4
     obtain ⟨j,hj⟩ : ∃ j,i - ((ls.zip on).take k).length=j+1:=⟨i - k - 1,by rw [hkz]; omega⟩
     simp only [hj,List.getElem_cons_succ,List.getElem_drop,List.getElem_zip]
     have : k+1+j=i:=by rw [hkz] at hj; omega
     simp [this]
 unfold onE
 rw [e,onL_app]
 simp [onL]
theorem onE_mem {ls:List Ln} {on:List Bool} {e:Nat×Nat} : e ∈ onE ls on ↔ ∃ k,k < ls.length∧on.getD k false=true∧e=edgeE (ls.getD k (0,0,0)):=by
 unfold onE onL
 rw [List.mem_map]
 constructor
 ·rintro ⟨p,hp,rfl⟩
  obtain ⟨h1,h2⟩:=List.mem_filter.1 hp
  obtain ⟨k,hk,rfl⟩:=List.mem_iff_getElem.1 h1
  have hk' : k < ls.length∧k < on.length:=by rw [List.length_zip] at hk; omega
  rw [List.getElem_zip] at h2 ⊢
  exact ⟨k,hk'.1,by rw [getD_ge hk'.2]; exact h2,by rw [getD_ge hk'.1]⟩
 ·rintro ⟨k,hk,ho,rfl⟩
  have hk2 : k < on.length:=by
   rcases Nat.lt_or_ge k on.length with h | h
   ·exact h
   ·rw [List.getD_eq_getElem?_getD,List.getElem?_eq_none h] at ho; simp at ho
  refine ⟨(ls[k],on[k]),List.mem_filter.2 ⟨List.mem_iff_getElem.2 ⟨k,by simp; omega,by simp⟩,?_⟩,by rw [getD_ge hk]⟩
  rw [getD_ge hk2] at ho
  exact ho
theorem onE_sub {ls:List Ln} : ∀ {on on':List Bool},on.length=on'.length → (∀ k,on.getD k false=true → on'.getD k false=true) → (onE ls on).Sublist (onE ls on'):=by
 induction ls with
 | nil=>intro on on' _ _; simp [onE,onL]
 | cons l ls ih =>
  intro on on' hl h
  cases on with
  | nil=>simp [onE,onL]
  | cons b on =>
   cases on' with
   | nil=>simp at hl
   | cons b' on' =>
    have h2:=ih (on:=on) (on':=on') (by simpa using hl) (fun k hk=>by have:=h (k+1); simpa using this (by simpa using hk))
    have h0 : b=true → b'=true:=fun hb=>by have:=h 0; simpa using this (by simpa using hb)
    unfold onE onL at h2 ⊢
    cases b
    ·cases b'
     ·simpa using h2
     ·simpa using h2.trans (List.sublist_cons_self _ _)
    ·rw [h0 rfl]; simpa using h2
def cycP (ls:List Ln) (on:List Bool):Bool:=(List.range ls.length).any fun k=>on.getD k false && labs (onE ls (on.set k false)) (edgeE (ls.getD k (0,0,0))).1 == labs (onE ls (on.set k false)) (edgeE (ls.getD k (0,0,0))).2
def cycB (ls:List Ln) (on:List Bool):Bool:=(List.range ls.length).any fun k=>on.getD k false && labs (onL ((ls.zip on).take k)) (edgeE (ls.getD k (0,0,0))).1 == labs (onL ((ls.zip on).take k)) (edgeE (ls.getD k (0,0,0))).2
theorem fo_take {ls:List Ln} {on:List Bool} (hl : on.length=ls.length) (h : ∀ k,k < ls.length → on.getD k false=true → ¬ Cn (onL ((ls.zip on).take k)) (edgeE (ls.getD k (0,0,0))).1 (edgeE (ls.getD k (0,0,0))).2):Fo (onE ls on):=by
 have : ∀ k,k ≤ ls.length → Fo (onL ((ls.zip on).take k)):=by
  intro k
  induction k with
  | zero=>intro _; exact fo_nil
  | succ k ih =>
   intro hk
   have hz : k < (ls.zip on).length:=by simp; omega
   rw [onL_step hz]
   have e1:(ls.zip on)[k].2=on.getD k false:=by rw [getD_ge (by omega)]; simp
   have e2:(ls.zip on)[k].1=ls.getD k (0,0,0):=by rw [getD_ge (by omega)]; simp
   rw [e1,e2]
   split
   ·rename_i ho
    exact fo_snoc.2 ⟨ih (by omega),h k (by omega) ho⟩
   ·exact ih (by omega)
 have h2:=this ls.length (Nat.le_refl _)
 rwa [List.take_of_length_le (by simp; omega)] at h2
theorem cycB_fo {ls:List Ln} {on:List Bool} (hl : on.length=ls.length) : cycB ls on=false ↔ Fo (onE ls on):=by
 unfold cycB
 rw [List.any_eq_false]
 constructor
 ·intro h
  refine fo_take hl fun k hk ho hc=>h k (by simpa using hk) ?_
  rw [ho,(labs_cn _ _ _).2 hc]; simp
 ·intro h k hk hc
  have hk : k < ls.length:=by simpa using hk
  simp only [Bool.and_eq_true,beq_iff_eq] at hc
  exact h _ _ _ (onE_cut hk hl hc.1) ((labs_cn _ _ _).1 hc.2)
theorem cycP_fo {ls:List Ln} {on:List Bool} (hl : on.length=ls.length) : cycP ls on=false ↔ Fo (onE ls on):=by
 unfold cycP
 rw [List.any_eq_false]
 constructor
 ·intro h
  refine fo_take hl fun k hk ho hc=>h k (by simpa using hk) ?_
  rw [ho,onE_off hk hl,(labs_cn _ _ _).2 (hc.mono fun f hf=>by simp [hf])]; simp
 ·intro h k hk hc
  have hk : k < ls.length:=by simpa using hk
  simp only [Bool.and_eq_true,beq_iff_eq] at hc
  rw [onE_off hk hl] at hc
  rw [onE_cut hk hl hc.1] at h
  exact fo_rm _ _ _ h ((labs_cn _ _ _).1 hc.2)
theorem cyc_eq {ls:List Ln} {on:List Bool} (hl : on.length=ls.length) : cycB ls on=cycP ls on:=by
 cases h : cycP ls on
 ·exact (cycB_fo hl).2 ((cycP_fo hl).1 h)
 ·cases h2 : cycB ls on
  ·rw [(cycP_fo hl).2 ((cycB_fo hl).1 h2)] at h; exact h
  ·rfl
def feedA (pts:List (Int×Int)) (b:Nat):Bool:=decide (0 < (pts.getD b (0,0)).1)
theorem feedA_lt {pts:List (Int×Int)} {b:Nat} (h : feedA pts b=true) : b < pts.length:=by
 rcases Nat.lt_or_ge b pts.length with h1 | h1
 ·exact h1
 ·simp [feedA,List.getElem?_eq_none h1] at h
def twoF (E:Ed) (pts:List (Int×Int)):Bool:=(List.range pts.length).any fun k=>(List.range k).any fun j=>feedA pts k && feedA pts j && labs E j == labs E k
theorem twoF_iff {E:Ed} {pts:List (Int×Int)} : twoF E pts=false ↔ ∀ a b,feedA pts a=true → feedA pts b=true → Cn E a b → a=b:=by
 unfold twoF
 rw [List.any_eq_false]
 constructor
 ·intro h
  have key : ∀ a b,feedA pts a=true → feedA pts b=true → Cn E a b → ¬ a < b:=by
   intro a b ha hb hc hlt
   refine h b (by simpa using feedA_lt hb) (List.any_eq_true.2 ⟨a,by simpa using hlt,?_⟩)
   rw [ha,hb,(labs_cn _ _ _).2 hc]; simp
  intro a b ha hb hc
  have h1:=key a b ha hb hc
  have h2:=key b a hb ha hc.symm
  omega
 ·intro h k hk hc
  obtain ⟨j,hj,h2⟩:=List.any_eq_true.1 hc
  simp only [Bool.and_eq_true,beq_iff_eq] at h2
  have:=h j k h2.1.2 h2.1.1 ((labs_cn _ _ _).1 h2.2)
  have : j < k:=by simpa using hj
  omega
def radP (ls:List Ln) (on:List Bool) (pts:List (Int×Int)):Bool:=!cycP ls on && !twoF (onE ls on) pts
theorem radP_iff {ls:List Ln} {on:List Bool} {pts:List (Int×Int)} (hl : on.length=ls.length) : radP ls on pts=true ↔ Fo (onE ls on)∧∀ a b,feedA pts a=true → feedA pts b=true → Cn (onE ls on) a b → a=b:=by
 unfold radP
 rw [Bool.and_eq_true,Bool.not_eq_true',Bool.not_eq_true',cycP_fo hl,twoF_iff]
theorem radP_sub {ls:List Ln} {on on':List Bool} {pts:List (Int×Int)} (hl : on.length=ls.length) (hl' : on'.length=ls.length) (h : ∀ k,on.getD k false=true → on'.getD k false=true) (hr : radP ls on' pts=true) : radP ls on pts=true:=by
 rw [radP_iff hl'] at hr
 rw [radP_iff hl]
 have hs:=onE_sub (ls:=ls) (hl.trans hl'.symm) h
 exact ⟨fo_sub hs hr.1,fun a b ha hb hc=>hr.2 a b ha hb (hc.mono fun e he=>hs.subset he)⟩
def fedB (E:Ed) (pts:List (Int×Int)) (b:Nat):Bool:=(List.range pts.length).any fun f=>feedA pts f && labs E f == labs E b
theorem fedB_iff {E:Ed} {pts:List (Int×Int)} {b:Nat} : fedB E pts b=true ↔ ∃ f,feedA pts f=true∧Cn E f b:=by
 unfold fedB
 rw [List.any_eq_true]
 constructor
 ·rintro ⟨f,_,h⟩
  simp only [Bool.and_eq_true,beq_iff_eq] at h
  exact ⟨f,h.1,(labs_cn _ _ _).1 h.2⟩
 ·rintro ⟨f,h1,h2⟩
  exact ⟨f,by simpa using feedA_lt h1,by rw [h1,(labs_cn _ _ _).2 h2]; simp⟩
theorem fedB_cn {E:Ed} {pts:List (Int×Int)} {a b:Nat} (h : fedB E pts a=true) (hc:Cn E a b) : fedB E pts b=true:=by
 obtain ⟨f,h1,h2⟩:=fedB_iff.1 h
 exact fedB_iff.2 ⟨f,h1,h2.trans hc⟩
def Lk (ls:List Ln) (on:List Bool) (k b c:Nat):Prop:=k < ls.length∧on.getD k false=true∧(edgeE (ls.getD k (0,0,0))=(b,c) ∨ edgeE (ls.getD k (0,0,0))=(c,b))
structure Par (ls:List Ln) (on:List Bool) (pts:List (Int×Int)) (par:Nat → Int) (rk:Nat → Nat):Prop where
 fed : ∀ b,b < pts.length → fedB (onE ls on) pts b=true → feedA pts b=true ∨ 0 ≤ par b
 feed : ∀ b,feedA pts b=true → par b < 0
 line : ∀ b,0 ≤ par b → ∃ c,Lk ls on (par b).toNat b c∧c < pts.length∧fedB (onE ls on) pts c=true∧rk c < rk b
inductive Way (ls:List Ln) (on:List Bool) (par:Nat → Int):Nat → List Nat → Prop
 | top {b:Nat} : par b < 0 → Way ls on par b []
 | step {b c:Nat} {w:List Nat} : 0 ≤ par b → Lk ls on (par b).toNat b c → Way ls on par c w → Way ls on par b (w++[(par b).toNat])
theorem edge_inj {ls:List Ln} {on:List Bool} {k b c d:Nat} (h:Lk ls on k b c) (h':Lk ls on k b d) : c=d:=by
 obtain ⟨_,_,h⟩:=h
 obtain ⟨_,_,h'⟩:=h'
 rcases h with h | h <;> rcases h' with h' | h' <;> rw [h] at h' <;> simp only [Prod.mk.injEq] at h' <;> omega
theorem Lk.cn {ls:List Ln} {on:List Bool} {k b c:Nat} (h:Lk ls on k b c):Cn (onE ls on) b c:=by
 obtain ⟨h1,h2,h3⟩:=h
 have hm:=onE_mem.2 ⟨k,h1,h2,rfl⟩
 rcases h3 with h3 | h3 <;> rw [h3] at hm
 ·exact .one (.inl hm)
 ·exact .one (.inr hm)
theorem Lk.off {ls:List Ln} {on:List Bool} {k j b c:Nat} (h:Lk ls on k b c) (hj : k ≠ j):Lk ls (on.set j false) k b c:=by
 obtain ⟨h1,h2,h3⟩:=h
 exact ⟨h1,by rw [← h2]; simp [List.getD,List.getElem?_set_ne (Ne.symm hj)],h3⟩
section
variable {ls:List Ln} {on:List Bool} {pts:List (Int×Int)} {par:Nat → Int} {rk:Nat → Nat} (P:Par ls on pts par rk) (hl : on.length=ls.length)
include P
theorem Par.way : ∀ (n b:Nat),rk b ≤ n → ∃ w,Way ls on par b w:=by
 intro n
 induction n with
 | zero =>
  intro b hb
  by_cases h : 0 ≤ par b
  ·obtain ⟨c,_,_,_,h2⟩:=P.line b h; omega
  ·exact ⟨[],.top (by omega)⟩
 | succ n ih =>
  intro b hb
  by_cases h : 0 ≤ par b
  ·obtain ⟨c,h1,_,_,h2⟩:=P.line b h
   obtain ⟨w,hw⟩:=ih c (by omega)
   exact ⟨_,.step h h1 hw⟩
  ·exact ⟨[],.top (by omega)⟩
omit P in
theorem Way.uniq {b:Nat} {w v:List Nat} (h:Way ls on par b w):Way ls on par b v → w=v:=by
 induction h generalizing v with
 | top h=>intro h'; cases h' with
  | top _=>rfl
  | step h2 _ _=>omega
 | step h1 h2 _ ih=>intro h'; cases h' with
  | top h3=>omega
  | step h3 h4 h5 =>
   obtain rfl:=edge_inj h2 h4
   rw [ih h5]
theorem Par.up {b c:Nat} (h : 0 ≤ par b) (h2:Lk ls on (par b).toNat b c) : c < pts.length∧fedB (onE ls on) pts c=true∧rk c < rk b:=by
 obtain ⟨d,h3,h4⟩:=P.line b h
 rw [edge_inj h2 h3]; exact h4
theorem Par.inj {b d:Nat} (hb : 0 ≤ par b) (hd : 0 ≤ par d) (h : par b=par d) : b=d:=by
 obtain ⟨c,h1,_,_,h2⟩:=P.line b hb
 obtain ⟨e,h3,_,_,h4⟩:=P.line d hd
 rw [← h] at h3
 obtain ⟨_,_,h1⟩:=h1
 obtain ⟨_,_,h3⟩:=h3
 rcases h1 with h1 | h1 <;> rcases h3 with h3 | h3 <;> rw [h1] at h3 <;> simp only [Prod.mk.injEq] at h3 <;> obtain ⟨rfl,rfl⟩:=h3 <;> first | rfl | omega
theorem Way.mem {b:Nat} {w:List Nat} (h:Way ls on par b w) : ∀ k ∈ w,∃ d,0 ≤ par d∧(par d).toNat=k∧rk d ≤ rk b:=by
 induction h with
 | top _=>intro k hk; simp at hk
 | @step b c w h1 h2 _ ih =>
  intro k hk
  rcases List.mem_append.1 hk with hk | hk
  ·obtain ⟨d,h3,h4,h5⟩:=ih k hk
   exact ⟨d,h3,h4,by have:=(P.up h1 h2).2.2; omega⟩
  ·exact ⟨b,h1,(List.mem_singleton.1 hk).symm,Nat.le_refl _⟩
theorem Way.last {b c:Nat} {w:List Nat} (h1 : 0 ≤ par b) (h2:Lk ls on (par b).toNat b c) (h:Way ls on par c w):(par b).toNat ∉ w:=by
 intro hm
 obtain ⟨d,h3,h4,h5⟩:=Way.mem P h _ hm
 have h6:=(P.up h1 h2).2.2
 have : b=d:=P.inj h1 h3 (by omega)
 subst this; omega
theorem Way.stays {b k:Nat} {w:List Nat} (h:Way ls on par b w) (hb : b < pts.length) (hf : fedB (onE ls on) pts b=true) (hk : k ∉ w) : fedB (onE ls (on.set k false)) pts b=true:=by
 induction h with
 | @top b h =>
  rcases P.fed b hb hf with h1 | h1
  ·exact fedB_iff.2 ⟨b,h1,.refl _⟩
  ·omega
 | @step b c w h1 h2 _ ih =>
  have hc:=P.up h1 h2
  have:=ih hc.1 hc.2.1 fun hm=>hk (by simp [hm])
  exact fedB_cn this (h2.off fun e=>hk (by simp [e])).cn.symm
theorem Way.under {b k:Nat} {w:List Nat} (h:Way ls on par b w) (hk : k ∈ w) : ∃ d c v,0 ≤ par d∧(par d).toNat=k∧Lk ls on k d c∧Way ls on par c v∧k ∉ v∧c < pts.length∧fedB (onE ls on) pts c=true∧Cn (onE ls (on.set k false)) d b:=by
 induction h with
 | top _=>simp at hk
 | @step b c w h1 h2 h3 ih =>
  have hc:=P.up h1 h2
  by_cases he : k=(par b).toNat
  ·subst he
   exact ⟨b,c,w,h1,rfl,h2,h3,Way.last P h1 h2 h3,hc.1,hc.2.1,.refl _⟩
  ·have hm : k ∈ w:=by simpa [he] using hk
   obtain ⟨d,e,v,g1,g2,g3,g4,g5,g6,g7,g8⟩:=ih hm
   exact ⟨d,e,v,g1,g2,g3,g4,g5,g6,g7,g8.trans (h2.off (Ne.symm he)).cn.symm⟩
include hl in
theorem Way.iff (hr : radP ls on pts=true) {b k:Nat} {w:List Nat} (h:Way ls on par b w) (hb : b < pts.length) (hf : fedB (onE ls on) pts b=true) : k ∈ w ↔ fedB (onE ls (on.set k false)) pts b=false:=by
 constructor
 ·intro hk
  obtain ⟨d,c,v,h1,h2,h3,h4,h5,h6,h7,h8⟩:=Way.under P h hk
  cases hx : fedB (onE ls (on.set k false)) pts b
  ·rfl
  exfalso
  obtain ⟨f,f1,f2⟩:=fedB_iff.1 hx
  obtain ⟨g,g1,g2⟩:=fedB_iff.1 (Way.stays P h4 h6 h7 h5)
  obtain ⟨hk1,hk2,hk3⟩:=h3
  have hoff:=onE_off hk1 hl
  have hon:=onE_cut hk1 hl hk2
  have M : ∀ {x y:Nat},Cn (onE ls (on.set k false)) x y → Cn (onE ls on) x y:=fun hxy=>hxy.mono fun e he=>by
   rw [hoff] at he; rw [hon]
   rcases List.mem_append.1 he with he | he <;> simp [he]
  rw [radP_iff hl] at hr
  have hdc:Cn (onE ls on) d c:=Lk.cn ⟨hk1,hk2,hk3⟩
  have hfg : f=g:=hr.2 f g f1 g1 ((M f2).trans ((M h8).symm.trans (hdc.trans (M g2).symm)))
  subst hfg
  have hj:Cn (onE ls (on.set k false)) d c:=(h8.trans f2.symm).trans g2
  rw [hoff] at hj
  have hfo:=hr.1
  rw [hon] at hfo
  have:=fo_rm _ _ _ hfo
  rcases hk3 with e | e <;> rw [e] at this
  ·exact this hj
  ·exact this hj.symm
 ·intro hx
  refine Classical.byContradiction fun hk=>?_
  rw [Way.stays P h hb hf hk] at hx
  cases hx
end
def flowP (ls:List Ln) (on:List Bool) (pts:List (Int×Int)) (k:Nat):Int :=
 ((List.range pts.length).map fun b=>if fedB (onE ls on) pts b && !fedB (onE ls (on.set k false)) pts b then (pts.getD b (0,0)).2 else 0).sum
end Go.Proofs.YtjdlgannencchaaGreatDoor
namespace Go.Proofs.YtjdlgannencchaaGreatDoor
set_option linter.unusedVariables false
set_option linter.unusedSimpArgs false
open Classical in
noncomputable def sumP (n:Nat) (f:Nat → Int) (p:Nat → Prop):Int:=((List.range n).map fun b=>if p b then f b else 0).sum
theorem sum_zip {n:Nat} {f g h:Nat → Int} (e : ∀ b,b < n → f b=g b+h b):((List.range n).map f).sum=((List.range n).map g).sum+((List.range n).map h).sum:=by
 induction n with
 | zero=>rfl
 | succ n ih =>
  rw [List.range_succ,List.map_append,List.map_append,List.map_append,List.sum_append,List.sum_append,List.sum_append,ih fun b hb=>e b (by omega)]
  have:=e n (by omega)
  simp only [List.map_cons,List.map_nil,List.sum_cons,List.sum_nil]
  omega
theorem sum_same {n:Nat} {f g:Nat → Int} (e : ∀ b,b < n → f b=g b):((List.range n).map f).sum=((List.range n).map g).sum:=by
 congr 1
 exact List.map_congr_left fun b hb=>e b (by simpa using hb)
theorem sum_zero {n:Nat} {f:Nat → Int} (e : ∀ b,b < n → f b=0):((List.range n).map f).sum=0:=by
 rw [sum_same e]
 induction n with
 | zero=>rfl
 | succ n ih=>rw [List.range_succ,List.map_append,List.sum_append,ih fun b hb=>e b (by omega)]; rfl
theorem sum_one {n:Nat} (f:Nat → Int) {a:Nat} (ha : a < n):((List.range n).map fun b=>if b=a then f b else 0).sum=f a:=by
 induction n with
 | zero=>omega
 | succ n ih =>
  rw [List.range_succ,List.map_append,List.sum_append]
  by_cases h : a=n
  ·subst h
   rw [sum_zero fun b hb=>if_neg (by omega)]
   simp
  ·rw [ih (by omega)]
   simp only [List.map_cons,List.map_nil,List.sum_cons,List.sum_nil]
   rw [if_neg (by omega)]; omega
theorem sumP_add {n:Nat} {f:Nat → Int} {p q r:Nat → Prop} (e : ∀ b,b < n → (p b ↔ q b ∨ r b)) (d : ∀ b,b < n → ¬ (q b∧r b)) : sumP n f p=sumP n f q+sumP n f r:=by
 refine sum_zip fun b hb=>?_
 have h1:=e b hb
 have h2:=d b hb
 by_cases hq : q b
 ·have hr : ¬ r b:=fun h=>h2 ⟨hq,h⟩
  rw [if_pos (h1.2 (.inl hq)),if_pos hq,if_neg hr]; omega
 ·by_cases hr : r b
  ·rw [if_pos (h1.2 (.inr hr)),if_neg hq,if_pos hr]; omega
  ·rw [if_neg (fun h=>(h1.1 h).elim hq hr),if_neg hq,if_neg hr]; rfl
theorem sumP_congr {n:Nat} {f:Nat → Int} {p q:Nat → Prop} (e : ∀ b,b < n → (p b ↔ q b)) : sumP n f p=sumP n f q:=by
 refine sum_same fun b hb=>?_
 by_cases h : p b
 ·rw [if_pos h,if_pos ((e b hb).1 h)]
 ·rw [if_neg h,if_neg fun h2=>h ((e b hb).2 h2)]
theorem sumP_one {n:Nat} {f:Nat → Int} {a:Nat} (ha : a < n) : sumP n f (fun b=>b=a)=f a:=by
 rw [← sum_one f ha]
 exact sum_same fun b hb=>by by_cases h : b=a <;> simp [h]
theorem sumP_none {n:Nat} {f:Nat → Int} {p:Nat → Prop} (e : ∀ b,b < n → ¬ p b) : sumP n f p=0 :=
 sum_zero fun b hb=>if_neg (e b hb)
def sumE (E:Ed) (pts:List (Int×Int)) (f:Int×Int → Int) (b:Nat):Int:=((List.range pts.length).map fun c=>if labs E c=labs E b then f (pts.getD c (0,0)) else 0).sum
def Up (ls:List Ln) (on:List Bool) (par:Nat → Int) (b c:Nat):Prop:=0 ≤ par b∧Lk ls on (par b).toNat b c
inductive An (ls:List Ln) (on:List Bool) (par:Nat → Int) (d:Nat):Nat → Prop
 | self:An ls on par d d
 | step {b c:Nat}:Up ls on par b c → An ls on par d c → An ls on par d b
section
variable {ls:List Ln} {on:List Bool} {pts:List (Int×Int)} {par:Nat → Int} {rk:Nat → Nat} (P:Par ls on pts par rk) (hl : on.length=ls.length)
theorem Up.inj {b c d:Nat} (h:Up ls on par b c) (h':Up ls on par b d) : c=d:=edge_inj h.2 h'.2
theorem An.trans {a b c:Nat} (h:An ls on par a b) (h':An ls on par b c):An ls on par a c:=by
 induction h' with
 | self=>exact h
 | step u _ ih=>exact .step u ih
theorem An.top {o b:Nat}:An ls on par o b ↔ b=o ∨ ∃ d,Up ls on par d o∧An ls on par d b:=by
 constructor
 ·intro h
  induction h with
  | self=>exact .inl rfl
  | @step b c u h ih =>
   rcases ih with rfl | ⟨d,h1,h2⟩
   ·exact .inr ⟨b,u,.self⟩
   ·exact .inr ⟨d,h1,.step u h2⟩
 ·rintro (rfl | ⟨d,h1,h2⟩)
  ·exact .self
  ·exact An.trans (.step h1 .self) h2
theorem An.chain {d e b:Nat} (h:An ls on par d b) (h':An ls on par e b):An ls on par d e ∨ An ls on par e d:=by
 induction h with
 | self=>exact .inr h'
 | @step b c u h ih =>
  cases h' with
  | self=>exact .inl (.step u h)
  | step u' h2 =>
   obtain rfl:=u.inj u'
   exact ih h2
include P
theorem An.rkle {d b:Nat} (h:An ls on par d b) : rk d ≤ rk b:=by
 induction h with
 | self=>exact Nat.le_refl _
 | step u _ ih=>have:=(P.up u.1 u.2).2.2; omega
omit P in
theorem An.proper {d b c:Nat} (h:An ls on par d b) (u:Up ls on par b c) (hne : d ≠ b):An ls on par d c:=by
 cases h with
 | self=>exact absurd rfl hne
 | step u' h'=>rw [u.inj u']; exact h'
theorem An.way {d b:Nat} {w:List Nat} (hd : 0 ≤ par d) (h:Way ls on par b w):An ls on par d b ↔ (par d).toNat ∈ w:=by
 induction h with
 | @top b h =>
  constructor
  ·intro h1
   cases h1 with
   | self=>omega
   | step u _=>have:=u.1; omega
  ·intro h1; simp at h1
 | @step b c w h1 h2 h3 ih =>
  constructor
  ·intro h
   by_cases e : d=b
   ·subst e; simp
   ·have:=ih.1 (An.proper h ⟨h1,h2⟩ e)
    simp [this]
  ·intro h
   rcases List.mem_append.1 h with h | h
   ·exact .step ⟨h1,h2⟩ (ih.2 h)
   ·have e:(par d).toNat=(par b).toNat:=by simpa using h
    rw [P.inj hd h1 (by omega)]; exact .self
theorem Up.fed {b c:Nat} (u:Up ls on par b c) : fedB (onE ls on) pts b=true:=fedB_cn (P.up u.1 u.2).2.1 u.2.cn.symm
theorem An.fed {d b:Nat} (h:An ls on par d b) (hd : fedB (onE ls on) pts d=true) : fedB (onE ls on) pts b=true:=by
 induction h with
 | self=>exact hd
 | step u _ _=>exact Up.fed P u
include hl in
theorem Par.flow (hr : radP ls on pts=true) {d:Nat} (hd : 0 ≤ par d) : flowP ls on pts (par d).toNat=sumP pts.length (fun b=>(pts.getD b (0,0)).2) (An ls on par d):=by
 refine sum_same fun b hb=>?_
 obtain ⟨c,hc,_⟩:=P.line d hd
 have hdf : fedB (onE ls on) pts d=true:=Up.fed P ⟨hd,hc⟩
 obtain ⟨w,hw⟩:=P.way (rk b) b (Nat.le_refl _)
 cases hf : fedB (onE ls on) pts b
 ·have hna : ¬ An ls on par d b:=fun h=>by rw [An.fed P h hdf] at hf; cases hf
  simp [hna]
 ·have h1:=Way.iff P hl hr hw hb hf (k:=(par d).toNat)
  have h2:=An.way P hd hw
  cases hx : fedB (onE ls (on.set (par d).toNat false)) pts b
  ·have ha:=h2.2 (h1.2 hx)
   simp [ha]
  ·have hna : ¬ An ls on par d b:=fun h=>by have:=h1.1 (h2.1 h); rw [hx] at this; cases this
   simp [hna]
include hl in
theorem Par.flow0 (hr : radP ls on pts=true) {k:Nat} (hk : ∀ d,0 ≤ par d → (par d).toNat ≠ k) : flowP ls on pts k=0:=by
 refine sum_zero fun b hb=>?_
 obtain ⟨w,hw⟩:=P.way (rk b) b (Nat.le_refl _)
 cases hf : fedB (onE ls on) pts b
 ·rfl
 ·cases hx : fedB (onE ls (on.set k false)) pts b
  ·have h1:=(Way.iff P hl hr hw hb hf (k:=k)).2 hx
   obtain ⟨d,h2,h3,_⟩:=Way.mem P hw k h1
   exact absurd h3 (hk d h2)
  ·rfl
omit P
def Wt (ls:List Ln) (on:List Bool) (par:Nat → Int) (rk:Nat → Nat) (F:Nat → Prop) (i c b:Nat):Prop:=(b=c∧F c∧i ≤ rk c) ∨ ∃ d,Up ls on par d c∧i ≤ rk d∧An ls on par d b
noncomputable def wantP (ls:List Ln) (on:List Bool) (pts:List (Int×Int)) (par:Nat → Int) (rk:Nat → Nat) (i c:Nat):Int:=sumP pts.length (fun b=>(pts.getD b (0,0)).2) (Wt ls on par rk (fun c=>fedB (onE ls on) pts c=true) i c)
noncomputable def belowP (ls:List Ln) (on:List Bool) (pts:List (Int×Int)) (par:Nat → Int) (o:Nat):Int:=sumP pts.length (fun b=>(pts.getD b (0,0)).2) (An ls on par o)
include P
theorem Par.want_self {i o:Nat} (ho : rk o=i) (hb : o < pts.length) (hf : fedB (onE ls on) pts o=true) : wantP ls on pts par rk (i+1) o+(pts.getD o (0,0)).2=belowP ls on pts par o:=by
 unfold wantP belowP
 rw [← sumP_one (f:=fun b=>(pts.getD b (0,0)).2) hb]
 refine (sumP_add (fun b hb=>?_) (fun b hb=>?_)).symm
 ·rw [An.top]
  constructor
  ·rintro (h | ⟨d,h1,h2⟩)
   ·exact .inr h
   ·exact .inl (.inr ⟨d,h1,by have:=(P.up h1.1 h1.2).2.2; omega,h2⟩)
  ·rintro ((⟨_,_,h⟩ | ⟨d,h1,_,h2⟩) | h)
   ·omega
   ·exact .inr ⟨d,h1,h2⟩
   ·exact .inl h
 ·rintro ⟨⟨_,_,h⟩ | ⟨d,h1,_,h2⟩,rfl⟩
  ·omega
  ·have:=An.rkle P h2
   have:=(P.up h1.1 h1.2).2.2
   omega
theorem Par.want_now {i o:Nat} (ho : rk o=i) (hf : fedB (onE ls on) pts o=true) : wantP ls on pts par rk i o=belowP ls on pts par o:=by
 refine sumP_congr fun b hb=>?_
 rw [An.top]
 constructor
 ·rintro (⟨h,_⟩ | ⟨d,h1,_,h2⟩)
  ·exact .inl h
  ·exact .inr ⟨d,h1,h2⟩
 ·rintro (h | ⟨d,h1,h2⟩)
  ·exact .inl ⟨h,hf,by omega⟩
  ·exact .inr ⟨d,h1,by have:=(P.up h1.1 h1.2).2.2; omega,h2⟩
theorem Par.want_up {i o c:Nat} (hinj : ∀ a b,fedB (onE ls on) pts a=true → fedB (onE ls on) pts b=true → rk a=rk b → a=b) (ho : rk o=i) (u:Up ls on par o c) : wantP ls on pts par rk i c=wantP ls on pts par rk (i+1) c+belowP ls on pts par o:=by
 have hrk:=(P.up u.1 u.2).2.2
 refine sumP_add (fun b hb=>?_) (fun b hb=>?_)
 ·constructor
  ·rintro (⟨_,_,h⟩ | ⟨d,h1,h2,h3⟩)
   ·omega
   ·by_cases e : rk d=i
    ·rw [hinj o d (Up.fed P u) (Up.fed P h1) (by omega)]; exact .inr h3
    ·exact .inl (.inr ⟨d,h1,by omega,h3⟩)
  ·rintro ((⟨_,_,h⟩ | ⟨d,h1,h2,h3⟩) | h)
   ·omega
   ·exact .inr ⟨d,h1,by omega,h3⟩
   ·exact .inr ⟨o,u,by omega,h⟩
 ·rintro ⟨⟨_,_,h⟩ | ⟨d,h1,h2,h3⟩,h4⟩
  ·omega
  ·have hne : d ≠ o:=fun e=>by subst e; omega
   rcases An.chain h3 h4 with h | h
   ·have:=An.rkle P (An.proper h u hne)
    have:=(P.up h1.1 h1.2).2.2
    omega
   ·have:=An.rkle P (An.proper h h1 (Ne.symm hne))
    omega
theorem Par.want_else {i o c:Nat} (hinj : ∀ a b,fedB (onE ls on) pts a=true → fedB (onE ls on) pts b=true → rk a=rk b → a=b) (ho : rk o=i) (hf : fedB (onE ls on) pts o=true) (h1 : c ≠ o) (h2 : ¬ Up ls on par o c) : wantP ls on pts par rk i c=wantP ls on pts par rk (i+1) c:=by
 refine sumP_congr fun b hb=>?_
 constructor
 ·rintro (⟨h3,h4,h5⟩ | ⟨d,h3,h4,h5⟩)
  ·refine .inl ⟨h3,h4,?_⟩
   by_cases e : rk c=i
   ·exact absurd (hinj c o h4 hf (by omega)) h1
   ·omega
  ·refine .inr ⟨d,h3,?_,h5⟩
   by_cases e : rk d=i
   ·rw [hinj d o (Up.fed P h3) hf (by omega)] at h3; exact absurd h3 h2
   ·omega
 ·rintro (⟨h3,h4,h5⟩ | ⟨d,h3,h4,h5⟩)
  ·exact .inl ⟨h3,h4,by omega⟩
  ·exact .inr ⟨d,h3,by omega,h5⟩
end
end Go.Proofs.YtjdlgannencchaaGreatDoor
namespace Go.Proofs.YtjdlgannencchaaGreatDoor
set_option linter.unusedVariables false
set_option linter.unusedSimpArgs false
def lineV (b:Int) (l:Ln):Bool:=inB l.1 0 (b - 1) && inB l.2.1 0 (b - 1) && !(l.1 == l.2.1) && inB l.2.2 1 999
def netV (b:Int) (ls:List Ln):Bool:=inB b 1 8 && decide (ls.length ≤ 10) && !(List.range ls.length).any fun k=>!lineV b (ls.getD k (0,0,0))
def busV (p:Int×Int):Bool:=inB p.1 0 999 && inB p.2 0 999
def busesV (b:Int) (ls:List Ln) (pts:List (Int×Int)):Bool:=netV b ls && decide ((pts.length:Int)=b) && !(List.range pts.length).any fun k=>!busV (pts.getD k (0,0))
def stV (b:Int) (ls:List Ln) (on:List Bool):Bool:=netV b ls && decide (on.length=ls.length)
def okV (b:Int) (ls:List Ln) (on:List Bool) (pts:List (Int×Int)):Bool:=stV b ls on && busesV b ls pts
def radB (b:Int) (ls:List Ln) (on:List Bool) (pts:List (Int×Int)):Bool:=okV b ls on pts && radP ls on pts
structure LnOk (b:Int) (l:Ln):Prop where
 a : 0 ≤ l.1∧l.1 < b
 b : 0 ≤ l.2.1∧l.2.1 < b
 ne : l.1 ≠ l.2.1
 m : 1 ≤ l.2.2∧l.2.2 ≤ 999
structure NetOk (b:Int) (ls:List Ln):Prop where
 b0 : 1 ≤ b
 b1 : b ≤ 8
 ll : ls.length ≤ 10
 ln : ∀ k,k < ls.length → LnOk b (ls.getD k (0,0,0))
theorem lineV_iff {b:Int} {l:Ln} : lineV b l=true ↔ LnOk b l:=by
 simp only [lineV,Bool.and_eq_true,inB_iff,Bool.not_eq_true',beq_eq_false_iff_ne]
 constructor
 ·rintro ⟨⟨⟨h1,h2⟩,h3⟩,h4⟩; exact ⟨by omega,by omega,h3,h4⟩
 ·intro h; have:=h.a; have:=h.b; exact ⟨⟨⟨by omega,by omega⟩,h.ne⟩,h.m⟩
theorem netV_iff {b:Int} {ls:List Ln} : netV b ls=true ↔ NetOk b ls:=by
 unfold netV
 rw [Bool.and_eq_true,any_f,Bool.and_eq_true,inB_iff,decide_eq_true_eq]
 constructor
 ·rintro ⟨⟨h1,h2⟩,h3⟩; exact ⟨h1.1,h1.2,h2,fun k hk=>lineV_iff.1 (by have:=h3 k hk; simpa using this)⟩
 ·intro h; exact ⟨⟨⟨h.b0,h.b1⟩,h.ll⟩,fun k hk=>by rw [lineV_iff.2 (h.ln k hk)]; rfl⟩
structure BusOk (b:Int) (ls:List Ln) (pts:List (Int×Int)):Prop where
 net:NetOk b ls
 lp:(pts.length:Int)=b
 bs : ∀ k,k < pts.length → (0 ≤ (pts.getD k (0,0)).1∧(pts.getD k (0,0)).1 ≤ 999)∧(0 ≤ (pts.getD k (0,0)).2∧(pts.getD k (0,0)).2 ≤ 999)
theorem busesV_iff {b : Int} {ls : List Ln} {pts : List (Int × Int)} : busesV b ls pts = true ↔ BusOk b ls pts := by
  unfold busesV
  rw [Bool.and_eq_true, any_f, Bool.and_eq_true, netV_iff, decide_eq_true_eq]
  constructor
  · rintro ⟨⟨h1, h2⟩, h3⟩; exact ⟨h1, h2, fun k hk => by have := h3 k hk; simpa [busV, inB_iff] using this⟩
  · intro h; exact ⟨⟨h.net, h.lp⟩, fun k hk => by
      have h2 : busV (pts.getD k (0, 0)) = true := by unfold busV; rw [Bool.and_eq_true, inB_iff, inB_iff]; exact h.bs k hk
      rw [h2]; rfl⟩
theorem onE_lt {b:Int} {ls:List Ln} {pts:List (Int×Int)} (h:BusOk b ls pts) (on:List Bool) : ∀ e ∈ onE ls on,e.1 < pts.length∧e.2 < pts.length:=by
 intro e he
 obtain ⟨k,hk,_,rfl⟩:=onE_mem.1 he
 have h1:=h.net.ln k hk
 have:=h.lp; have:=h1.a; have:=h1.b
 exact ⟨by unfold edgeE; dsimp only; omega,by unfold edgeE; dsimp only; omega⟩
theorem sorted_ext : ∀ {l m:List Int},l.Pairwise (·< ·) → m.Pairwise (·< ·) → (∀ x,x ∈ l ↔ x ∈ m) → l=m
 | [],[],_,_,_=>rfl
 | [],y :: m,_,_,h=>by have:=(h y).2 (by simp); simp at this
 | x :: l,[],_,_,h=>by have:=(h x).1 (by simp); simp at this
 | x :: l,y :: m,hl,hm,h=>by
  rw [List.pairwise_cons] at hl hm
  have hxy : x=y:=by
   rcases List.mem_cons.1 ((h x).1 (by simp)) with h1 | h1
   ·exact h1
   ·rcases List.mem_cons.1 ((h y).2 (by simp)) with h2 | h2
    ·exact h2.symm
    ·have:=hm.1 x h1; have:=hl.1 y h2; omega
  subst hxy
  rw [sorted_ext hl.2 hm.2 fun z=>?_]
  constructor
  ·intro hz
   rcases List.mem_cons.1 ((h z).1 (by simp [hz])) with h1 | h1
   ·subst h1; have:=hl.1 z hz; omega
   ·exact h1
  ·intro hz
   rcases List.mem_cons.1 ((h z).2 (by simp [hz])) with h1 | h1
   ·subst h1; have:=hm.1 z hz; omega
   ·exact h1
def insS (a:Int) (l:List Int):List Int:=l.filter (fun x=>decide (x < a))++a :: l.filter (fun x=>decide (a < x))
theorem insS_mem {a:Int} {l:List Int} {x:Int} : x ∈ insS a l ↔ x=a ∨ x ∈ l:=by
 simp only [insS,List.mem_append,List.mem_cons,List.mem_filter,decide_eq_true_eq]
 constructor
 ·rintro (⟨h,_⟩ | h | ⟨h,_⟩)
  ·exact .inr h
  ·exact .inl h
  ·exact .inr h
 ·rintro (h | h)
  ·exact .inr (.inl h)
  ·rcases Int.lt_trichotomy x a with h1 | h1 | h1
   ·exact .inl ⟨h,h1⟩
   ·exact .inr (.inl h1)
   ·exact .inr (.inr ⟨h,h1⟩)
theorem insS_sorted {a:Int} {l:List Int} (h : l.Pairwise (·< ·)):(insS a l).Pairwise (·< ·):=by
 unfold insS
 rw [List.pairwise_append,List.pairwise_cons]
 refine ⟨h.sublist List.filter_sublist,⟨fun x hx=>?_,h.sublist List.filter_sublist⟩,fun x hx y hy=>?_⟩
 ·have:=(List.mem_filter.1 hx).2; simpa using this
 ·have h1 : x < a:=by have:=(List.mem_filter.1 hx).2; simpa using this
  rcases List.mem_cons.1 hy with rfl | hy
  ·exact h1
  ·have : a < y:=by have:=(List.mem_filter.1 hy).2; simpa using this
   omega
theorem sorted_of_adj {l:List Int} (h : ∀ k,k+1 < l.length → l.getD k 0 < l.getD (k+1) 0) : l.Pairwise (·< ·):=by
 rw [List.pairwise_iff_getElem]
 have key : ∀ d i,i+d+1 < l.length → l.getD i 0 < l.getD (i+d+1) 0:=by
  intro d
  induction d with
  | zero=>intro i hi; exact h i hi
  | succ d ih =>
   intro i hi
   have h1:=ih i (by omega)
   have h2:=h (i+d+1) (by omega)
   have e : i+(d+1)+1=i+d+1+1:=by omega
   rw [e]; omega
 intro i j hi hj hij
 have:=key (j - i - 1) i (by omega)
 rw [show i+(j - i - 1)+1=j by omega,getD_ge hi,getD_ge hj] at this
 exact this
theorem adj_of_sorted {l:List Int} (h : l.Pairwise (·< ·)) {k:Nat} (hk : k+1 < l.length) : l.getD k 0 < l.getD (k+1) 0:=by
 rw [List.pairwise_iff_getElem] at h
 rw [getD_ge (by omega),getD_ge hk]
 exact h k (k+1) (by omega) hk (by omega)
@[ext] structure Wd where
 b:Int
 ls:List Ln
 pts:List (Int×Int)
 on:List Bool
 earth:List Bool
 pm:Pm
 br:List Int
def Wd.wk (w:Wd):Wk:=(w.on,w.earth,w.pm)
def Wd.put (w:Wd) (k:Wk):Wd:=⟨w.b,w.ls,w.pts,k.1,k.2.1,k.2.2,w.br⟩
def Wd.zero:Wd:=⟨0,[],[],[],[],[],[]⟩
theorem put_wk (w:Wd) (k:Wk):(w.put k).wk=k:=rfl
theorem put_self (w:Wd) : w.put w.wk=w:=rfl
def brAt (on:List Bool) (br:List Int) (k:Nat):Bool:=(decide (0 ≤ br.getD k 0) && decide (br.getD k 0 < (on.length:Int))) && !on.getD (br.getD k 0).toNat false && (decide (k=0) || decide (br.getD (k - 1) 0 < br.getD k 0))
def brV (on:List Bool) (br:List Int):Bool:=!(List.range br.length).any fun k=>!brAt on br k
def wv (w:Wd):Bool:=busesV w.b w.ls w.pts && workV w.on w.earth w.pm && decide (w.on.length=w.ls.length) && brV w.on w.br && radP w.ls w.on w.pts
structure WdOk (w:Wd):Prop where
 bus:BusOk w.b w.ls w.pts
 work:WOk w.wk
 len : w.on.length=w.ls.length
 inn : ∀ x ∈ w.br,(0 ≤ x∧x < (w.on.length:Int))∧w.on.getD x.toNat false=false
 sor : w.br.Pairwise (·< ·)
 rad : radP w.ls w.on w.pts=true
theorem brV_iff {on:List Bool} {br:List Int} : brV on br=true ↔ (∀ x ∈ br,(0 ≤ x∧x < (on.length:Int))∧on.getD x.toNat false=false)∧br.Pairwise (·< ·):=by
 unfold brV
 rw [any_f]
 constructor
 ·intro h
  have h1 : ∀ k,k < br.length → (0 ≤ br.getD k 0∧br.getD k 0 < (on.length:Int))∧on.getD (br.getD k 0).toNat false=false∧(k=0 ∨ br.getD (k - 1) 0 < br.getD k 0):=by
   intro k hk
   have:=h k hk
   simpa only [brAt,Bool.not_eq_false',Bool.and_eq_true,Bool.or_eq_true,decide_eq_true_eq,Bool.not_eq_true',and_assoc] using this
  refine ⟨fun x hx=>?_,sorted_of_adj fun k hk=>?_⟩
  ·obtain ⟨k,hk,rfl⟩:=List.mem_iff_getElem.1 hx
   have:=h1 k hk
   rw [getD_ge hk] at this
   exact ⟨this.1,this.2.1⟩
  ·rcases (h1 (k+1) hk).2.2 with h2 | h2
   ·omega
   ·simpa using h2
 ·rintro ⟨h1,h2⟩ k hk
  have h3:=h1 (br.getD k 0) (by rw [getD_ge hk]; exact List.getElem_mem hk)
  have h4 : k=0 ∨ br.getD (k - 1) 0 < br.getD k 0:=by
   rcases Nat.eq_zero_or_pos k with h | h
   ·exact .inl h
   ·obtain ⟨j,rfl⟩ : ∃ j,k=j+1:=⟨k - 1,by omega⟩
    exact .inr (adj_of_sorted h2 hk)
  have : brAt on br k=true:=by simpa only [brAt,Bool.and_eq_true,Bool.or_eq_true,decide_eq_true_eq,Bool.not_eq_true',and_assoc] using ⟨h3.1.1,h3.1.2,h3.2,h4⟩
  rw [this]; rfl
theorem wv_iff {w:Wd} : wv w=true ↔ WdOk w:=by
 unfold wv
 rw [Bool.and_eq_true,Bool.and_eq_true,Bool.and_eq_true,Bool.and_eq_true,busesV_iff,decide_eq_true_eq,brV_iff]
 constructor
 ·rintro ⟨⟨⟨⟨h1,h2⟩,h3⟩,h4,h5⟩,h6⟩; exact ⟨h1,wok_iff.1 h2,h3,h4,h5,h6⟩
 ·intro h; exact ⟨⟨⟨⟨h.bus,wok_iff.2 h.work⟩,h.len⟩,h.inn,h.sor⟩,h.rad⟩
def wdDo (w:Wd) (kd a who:Int):Wd×Bool :=
 if wv w=true then
  if 0 ≤ a∧a < (w.on.length:Int) then
   if kd=6∧a ∉ w.br then ({ w with on:=w.on.set a.toNat false,br:=insS a w.br },true)
   else if kd=7∧a ∈ w.br∧(who,a) ∈ w.pm then ({ w with br:=w.br.filter fun x=>x != a },true)
   else if kd=0∧a ∈ w.br then (w,false)
   else if (wkDo w.wk kd a who).2=true∧radP w.ls (wkDo w.wk kd a who).1.1 w.pts=true then (w.put (wkDo w.wk kd a who).1,true)
   else (w,false)
  else (w,false)
 else (.zero,false)
theorem put_on {w:Wk} {kd a who:Int} (h : kd ≠ 0) : ∀ k,(wkPut w kd a who).1.getD k false=true → w.1.getD k false=true:=by
 intro k hk
 unfold wkPut at hk
 rw [if_neg h] at hk
 split at hk
 ·by_cases e : a.toNat=k
  ·subst e
   rcases Nat.lt_or_ge a.toNat w.1.length with h1 | h1
   ·rw [gset h1] at hk; cases hk
   ·rw [gout (by simpa using h1)] at hk; cases hk
  ·rwa [gset_ne e] at hk
 ·split at hk
  ·exact hk
  ·split at hk
   ·exact hk
   ·split at hk <;> exact hk
theorem put_on_len (w:Wk) (kd a who:Int):(wkPut w kd a who).1.length=w.1.length:=(put_len w kd a who).1
theorem wkDo_on {w:Wk} (hw:WOk w) {kd a who:Int}:(wkDo w kd a who).1.1.length=w.1.length∧(kd ≠ 0 → ∀ k,(wkDo w kd a who).1.1.getD k false=true → w.1.getD k false=true):=by
 rcases do_cases hw kd a who with ⟨h,_⟩ | ⟨h,_⟩
 ·rw [h]; exact ⟨put_on_len _ _ _ _,fun h0=>put_on h0⟩
 ·rw [h]; exact ⟨rfl,fun _ k hk=>hk⟩
theorem wkDo_rad {w:Wd} (h:WdOk w) {kd a who:Int} (h0 : kd ≠ 0) : radP w.ls (wkDo w.wk kd a who).1.1 w.pts=true:=by
 have h1:=wkDo_on h.work (kd:=kd) (a:=a) (who:=who)
 exact radP_sub (h1.1.trans h.len) h.len (h1.2 h0) h.rad
theorem wd_put_ok {w:Wd} (h:WdOk w) {k:Wk} (hk:WOk k) (hl : k.1.length=w.on.length) (hbr : ∀ x ∈ w.br,k.1.getD x.toNat false=false) (hr : radP w.ls k.1 w.pts=true):WdOk (w.put k) :=
 ⟨h.bus,hk,hl.trans h.len,fun x hx=>⟨by have:=(h.inn x hx).1; show 0 ≤ x∧x < (k.1.length:Int); rw [hl]; exact this,hbr x hx⟩,h.sor,hr⟩
theorem wkDo_wok {w:Wk} (h:WOk w) (kd a who:Int):WOk (wkDo w kd a who).1:=by
 rcases do_cases h kd a who with ⟨h1,_,_,h2⟩ | ⟨h1,_⟩
 ·rw [h1]; exact h2
 ·rw [h1]; exact h
theorem wdDo_ok {w:Wd} (h:WdOk w) (kd a who:Int):WdOk (wdDo w kd a who).1:=by
 unfold wdDo
 rw [if_pos (wv_iff.2 h)]
 split
 ·rename_i ha
  split
  ·rename_i h6
   have hal : a.toNat < w.on.length:=by omega
   have hsub : ∀ k,(w.on.set a.toNat false).getD k false=true → w.on.getD k false=true:=by
    intro k hk
    by_cases e : a.toNat=k
    ·subst e; rw [gset hal] at hk; cases hk
    ·rwa [gset_ne e] at hk
   have hw:=h.work
   refine ⟨h.bus,⟨by simpa [Wd.wk] using hw.l0,by simpa [Wd.wk] using hw.l1,by simpa [Wd.wk] using hw.le,hw.lp,fun k hk=>hw.ne k (hsub k hk),fun p hp=>?_,hw.nd⟩,by simpa using h.len,fun x hx=>?_,insS_sorted h.sor,radP_sub (by simpa using h.len) h.len hsub h.rad⟩
   ·have:=hw.pm p hp
    simpa [Wd.wk] using this
   ·dsimp only at hx ⊢
    rcases insS_mem.1 hx with rfl | hx
    ·exact ⟨by simpa using ha,gset hal⟩
    ·have:=h.inn x hx
     refine ⟨by simpa using this.1,?_⟩
     cases hc:(w.on.set a.toNat false).getD x.toNat false
     ·rfl
     ·rw [hsub _ hc] at this; exact this.2
  ·split
   ·exact ⟨h.bus,h.work,h.len,fun x hx=>h.inn x (List.mem_filter.1 hx).1,h.sor.sublist List.filter_sublist,h.rad⟩
   ·split
    ·exact h
    ·rename_i h6 h7 h0
     split
     ·rename_i hr
      have h1:=wkDo_on h.work (kd:=kd) (a:=a) (who:=who)
      refine wd_put_ok h (wkDo_wok h.work kd a who) h1.1 (fun x hx=>?_) hr.2
      have hi:=h.inn x hx
      by_cases hk : kd=0
      ·subst hk
       have hne : a ≠ x:=fun e=>h0 ⟨rfl,e ▸ hx⟩
       rcases do_cases h.work 0 a who with ⟨g,_⟩ | ⟨g,_⟩
       ·rw [g]
        show (w.on.set a.toNat true).getD x.toNat false=false
        rw [gset_ne (by omega)]; exact hi.2
       ·rw [g]; exact hi.2
      ·cases hc:(wkDo w.wk kd a who).1.1.getD x.toNat false
       ·rfl
       ·have h2:=h1.2 hk _ hc
        rw [show w.wk.1=w.on from rfl] at h2
        rw [h2] at hi; exact hi.2
     ·exact h
 ·exact h
theorem wdDo_net (w:Wd) (h : wv w=true) (kd a who:Int):(wdDo w kd a who).1.b=w.b∧(wdDo w kd a who).1.ls=w.ls∧(wdDo w kd a who).1.pts=w.pts:=by
 unfold wdDo
 rw [if_pos h]
 repeat' split
 all_goals exact ⟨rfl,rfl,rfl⟩
theorem wdDo_same {w:Wd} (h:WdOk w) {kd a who:Int} (hf:(wdDo w kd a who).2=false):(wdDo w kd a who).1=w:=by
 unfold wdDo at hf ⊢
 rw [if_pos (wv_iff.2 h)] at hf ⊢
 split <;> rename_i ha
 ·rw [if_pos ha] at hf
  split <;> rename_i h6
  ·rw [if_pos h6] at hf; cases hf
  ·rw [if_neg h6] at hf
   split <;> rename_i h7
   ·rw [if_pos h7] at hf; cases hf
   ·rw [if_neg h7] at hf
    split <;> rename_i h0
    ·rfl
    ·rw [if_neg h0] at hf
     split <;> rename_i hr
     ·rw [if_pos hr] at hf; cases hf
     ·rfl
 ·rfl
abbrev Dd:=Int×Int×Int
def wdStep (s:Int×Wd) (d:Dd):Int×Wd:=if (wdDo s.2 d.1 d.2.1 d.2.2).2=true then (s.1+1,(wdDo s.2 d.1 d.2.1 d.2.2).1) else s
theorem wdStep_ok {s:Int×Wd} (h:WdOk s.2) (d:Dd):WdOk (wdStep s d).2:=by
 unfold wdStep
 split
 ·exact wdDo_ok h _ _ _
 ·exact h
theorem wdFold_ok (l:List Dd) : ∀ {s:Int×Wd},WdOk s.2 → WdOk (l.foldl wdStep s).2:=by
 induction l with
 | nil=>intro s h; exact h
 | cons d l ih=>intro s h; exact ih (wdStep_ok h d)
def wdRun (w:Wd) (l:List Dd):Int×Wd:=if wv w=true then l.foldl wdStep (0,w) else (0,.zero)
theorem wdRun_ok {w:Wd} (h:WdOk w) (l:List Dd):WdOk (wdRun w l).2:=by
 unfold wdRun; rw [if_pos (wv_iff.2 h)]; exact wdFold_ok l h
theorem wd_lift (l:List Dd) (hl : ∀ d ∈ l,d.1 ≠ 0∧d.1 ≠ 6∧d.1 ≠ 7) : ∀ (c:Int) (w:Wd),WdOk w → l.foldl wdStep (c,w)=((l.foldl wkStep (c,w.wk)).1,w.put (l.foldl wkStep (c,w.wk)).2):=by
 induction l with
 | nil=>intro c w h; rfl
 | cons d l ih =>
  intro c w h
  have hd:=hl d (by simp)
  have e0 : wdDo w d.1 d.2.1 d.2.2=(w.put (wkDo w.wk d.1 d.2.1 d.2.2).1,(wkDo w.wk d.1 d.2.1 d.2.2).2):=by
   unfold wdDo
   rcases do_cases h.work d.1 d.2.1 d.2.2 with ⟨g,g2,_⟩ | ⟨g,g2⟩
   ·have hr:=wkDo_rad h hd.1 (a:=d.2.1) (who:=d.2.2)
    have g3 : 0 ≤ d.2.1∧d.2.1 < (w.on.length:Int):=g2
    rw [if_pos (wv_iff.2 h),if_pos g3,if_neg (fun g=>hd.2.1 g.1),if_neg (fun g=>hd.2.2 g.1),if_neg (fun g=>hd.1 g.1),if_pos ⟨by rw [g],hr⟩,g]
   ·have hn : ¬ ((wkDo w.wk d.1 d.2.1 d.2.2).2=true∧radP w.ls (wkDo w.wk d.1 d.2.1 d.2.2).1.1 w.pts=true):=by rw [g]; simp
    rw [if_pos (wv_iff.2 h)]
    split
    ·rw [g]; simp [hd.1,hd.2.1,hd.2.2,put_self]
    ·rw [g,put_self]
  have e : wdStep (c,w) d=((wkStep (c,w.wk) d).1,w.put (wkStep (c,w.wk) d).2):=by
   unfold wdStep wkStep
   dsimp only
   rw [e0]
   dsimp only
   split
   ·rfl
   ·rfl
  have hok:=wdStep_ok (s:=(c,w)) h d
  rw [List.foldl_cons,List.foldl_cons,e]
  rw [e] at hok
  rw [ih (fun x hx=>hl x (by simp [hx])) _ _ hok,put_wk]
  rfl
end Go.Proofs.YtjdlgannencchaaGreatDoor
namespace Go.Proofs.YtjdlgannencchaaGreatDoor
set_option linter.unusedVariables false
set_option linter.unusedSimpArgs false
theorem loop_rel {σ Out:Type} (L:Nat → σ → Option Out) (R:Nat → σ → Prop) (n:Nat) (fin : σ → Option Out) (hn : n ≤ 1099511627776)
  (hstep : ∀ k fuel s,k < n → R k s → ∃ s',R (k+1) s'∧L (fuel+1) s=L fuel s') (hend : ∀ fuel s,R n s → L (fuel+1) s=fin s) (s : σ) (h0:R 0 s) : ∃ s',R n s'∧L FUEL s=fin s':=by
 have go : ∀ j k fuel s,k+j=n → j < fuel → R k s → ∃ s',R n s'∧L fuel s=fin s':=by
  intro j
  induction j with
  | zero =>
   intro k fuel s hk hf hr
   obtain ⟨f,rfl⟩ : ∃ f,fuel=f+1:=⟨fuel - 1,by omega⟩
   obtain rfl : k=n:=by omega
   exact ⟨s,hr,hend f s hr⟩
  | succ j ih =>
   intro k fuel s hk hf hr
   obtain ⟨f,rfl⟩ : ∃ f,fuel=f+1:=⟨fuel - 1,by omega⟩
   obtain ⟨s',h1,h2⟩:=hstep k f s (by omega) hr
   rw [h2]
   exact ih (k+1) f s' (by omega) (by omega) h1
 exact go n 0 FUEL s (by omega) (fuel_gt hn) h0
theorem loop_hunt {σ Out:Type} (L:Nat → σ → Option Out) (R:Nat → σ → Prop) (n:Nat) (P:Nat → Bool) (fv out:Option Out) (hn : n ≤ 1099511627776)
  (hstep : ∀ k fuel s,k < n → R k s → (P k=true∧L (fuel+1) s=fv) ∨ (P k=false∧∃ s',R (k+1) s'∧L (fuel+1) s=L fuel s')) (hend : ∀ fuel s,R n s → L (fuel+1) s=out) (s : σ) (h0:R 0 s) :
  L FUEL s=bif (List.range n).any P then fv else out:=by
 have go : ∀ j k fuel s,k+j=n → j < fuel → R k s → L fuel s=bif (List.range' k j).any P then fv else out:=by
  intro j
  induction j with
  | zero =>
   intro k fuel s hk hf hr
   obtain ⟨f,rfl⟩ : ∃ f,fuel=f+1:=⟨fuel - 1,by omega⟩
   obtain rfl : k=n:=by omega
   simpa using hend f s hr
  | succ j ih =>
   intro k fuel s hk hf hr
   obtain ⟨f,rfl⟩ : ∃ f,fuel=f+1:=⟨fuel - 1,by omega⟩
   rw [List.range'_succ,List.any_cons]
   rcases hstep k f s (by omega) hr with ⟨h1,h2⟩ | ⟨h1,s',h2,h3⟩
   ·rw [h1,h2]; rfl
   ·rw [h1,h3,ih (k+1) f s' (by omega) (by omega) h2]; rfl
 rw [go n 0 FUEL s (by omega) (fuel_gt hn) h0,List.range_eq_range']
theorem ltN (b:Int):(ltB b 1 || ltB 8 b)=!inB b 1 8:=by rw [Bool.eq_iff_iff]; simp [ltB,inB] <;> omega
theorem lt10 (n:Nat) : ltB 10 (n:Int)=!decide (n ≤ 10):=by rw [Bool.eq_iff_iff]; simp [ltB]; omega
theorem len_beq (a b:Nat):((a:Int) == (b:Int))=decide (a=b):=by rw [Bool.eq_iff_iff]; simp <;> omega
theorem lineV_i (b:Int) (l:Ln) : lineV b l=((leB 0 l.1 && ltB l.1 b) && (leB 0 l.2.1 && ltB l.2.1 b) && !(l.1 == l.2.1) && (!ltB l.2.2 1 && !ltB 999 l.2.2)):=by
 rw [Bool.eq_iff_iff]; simp [lineV,inB,leB,ltB] <;> omega
theorem iNet (b:Int) (ls:List Ln) : m_impl_NetValid b ls=some (netV b ls):=by
 unfold m_impl_NetValid netV
 rw [ltN,lt10]
 cases h1 : inB b 1 8
 ·rfl
 by_cases hl : ls.length ≤ 10
 ·have h:=loop_find (m_impl_NetValid_l1 b ls) (fun k=>(k:Int)) ls.length (fun k=>!lineV b (ls.getD k (0,0,0))) (some (.inr false)) (some (.inl ())) (by omega) (fun k fuel hk=>?_) (fun fuel=>?_)
  ·rw [show m_impl_NetValid_l1 b ls FUEL 0=_ from h,decide_eq_true hl]
   cases (List.range ls.length).any fun k=>!lineV b (ls.getD k (0,0,0)) <;> rfl
  ·rw [e_impl_NetValid_l1,m_impl_NetValid_l1s]
   simp only [lt_dec hk,ix_dec hk,chk_true,cond_true,Int.toNat_natCast,w64_succ (by omega : k < 4611686018427387904),m_impl_Net_hasBus,Option.bind_some]
   generalize ls.getD k (0,0,0)=l
   rw [lineV_i]
   cases leB 0 l.1 && ltB l.1 b <;> cases leB 0 l.2.1 && ltB l.2.1 b <;> cases l.1 == l.2.1 <;> cases ltB l.2.2 1 <;> cases ltB 999 l.2.2 <;> rfl
  ·rw [e_impl_NetValid_l1,m_impl_NetValid_l1s]; simp only [nlt_dec,cond_false]
 ·rw [decide_eq_false hl]; rfl
theorem sNet (b:Int) (ls:List Ln) : m_spec_NetValid b ls=some (netV b ls):=by
 unfold m_spec_NetValid netV m_spec_l1In
 rw [lt10,inB_le]
 cases h1 : leB 1 b && leB b 8
 ·rfl
 by_cases hl : ls.length ≤ 10
 ·have hb : 1 ≤ b∧b ≤ 8:=by simpa [leB] using h1
  have w1 : w64 (b - 1)=b - 1:=w64_in (by omega) (by omega)
  have h:=loop_find (m_spec_NetValid_l1 b ls) (fun k=>(k:Int)) ls.length (fun k=>!lineV b (ls.getD k (0,0,0))) (some (.inr false)) (some (.inl ())) (by omega) (fun k fuel hk=>?_) (fun fuel=>?_)
  ·rw [show m_spec_NetValid_l1 b ls FUEL 0=_ from h,decide_eq_true hl]
   cases (List.range ls.length).any fun k=>!lineV b (ls.getD k (0,0,0)) <;> rfl
  ·rw [e_spec_NetValid_l1,m_spec_NetValid_l1s]
   simp only [lt_dec hk,ix_dec hk,chk_true,cond_true,Int.toNat_natCast,w64_succ (by omega : k < 4611686018427387904),m_spec_l1In,Option.bind_some,w1]
   generalize ls.getD k (0,0,0)=l
   unfold lineV
   rw [inB_le,inB_le,inB_le]
   cases leB 0 l.1 && leB l.1 (b - 1) <;> cases leB 0 l.2.1 && leB l.2.1 (b - 1) <;> cases l.1 == l.2.1 <;> cases leB 1 l.2.2 && leB l.2.2 999 <;> rfl
  ·rw [e_spec_NetValid_l1,m_spec_NetValid_l1s]; simp only [nlt_dec,cond_false]
 ·rw [decide_eq_false hl]; rfl
section
variable (b:Int) (ls:List Ln) (pts:List (Int×Int)) (hp : pts.length ≤ 1048576)
include hp
theorem iBuses : m_impl_BusesValid b ls pts=some (busesV b ls pts):=by
 unfold m_impl_BusesValid busesV
 rw [iNet,Option.bind_some]
 have e:((pts.length:Int) != b)=!decide ((pts.length:Int)=b):=by rw [Bool.eq_iff_iff]; simp
 rw [e]
 have h:=loop_find (m_impl_BusesValid_l1 pts) (fun k=>(k:Int)) pts.length (fun k=>!busV (pts.getD k (0,0))) (some (.inr false)) (some (.inl ())) (by omega) (fun k fuel hk=>?_) (fun fuel=>?_)
 ·rw [show m_impl_BusesValid_l1 pts FUEL 0=_ from h]
  cases netV b ls <;> cases decide ((pts.length:Int)=b) <;> cases (List.range pts.length).any fun k=>!busV (pts.getD k (0,0)) <;> rfl
 ·rw [e_impl_BusesValid_l1,m_impl_BusesValid_l1s]
  simp only [lt_dec hk,ix_dec hk,chk_true,cond_true,Int.toNat_natCast,w64_succ (by omega : k < 4611686018427387904),m_impl_powerValid,Option.bind_some]
  generalize pts.getD k (0,0)=p
  unfold busV
  rw [inB_le,inB_le]
  cases leB 0 p.1 && leB p.1 999 <;> cases leB 0 p.2 && leB p.2 999 <;> rfl
 ·rw [e_impl_BusesValid_l1,m_impl_BusesValid_l1s]; simp only [nlt_dec,cond_false]
theorem sBuses : m_spec_BusesValid b ls pts=some (busesV b ls pts):=by
 unfold m_spec_BusesValid busesV
 rw [sNet]
 have e:((pts.length:Int) == b)=decide ((pts.length:Int)=b):=by rw [Bool.eq_iff_iff]; simp
 rw [e]
 have h:=loop_find (m_spec_BusesValid_l1 pts) (fun k=>(k:Int)) pts.length (fun k=>!busV (pts.getD k (0,0))) (some (.inr false)) (some (.inl ())) (by omega) (fun k fuel hk=>?_) (fun fuel=>?_)
 ·rw [show m_spec_BusesValid_l1 pts FUEL 0=_ from h]
  cases netV b ls <;> cases decide ((pts.length:Int)=b) <;> cases (List.range pts.length).any fun k=>!busV (pts.getD k (0,0)) <;> rfl
 ·rw [e_spec_BusesValid_l1,m_spec_BusesValid_l1s]
  simp only [lt_dec hk,ix_dec hk,chk_true,cond_true,Int.toNat_natCast,w64_succ (by omega : k < 4611686018427387904),m_spec_l1In,Option.bind_some,Bool.or_true]
  generalize pts.getD k (0,0)=p
  unfold busV
  rw [inB_le,inB_le]
  cases leB 0 p.1 && leB p.1 999 <;> cases leB 0 p.2 && leB p.2 999 <;> rfl
 ·rw [e_spec_BusesValid_l1,m_spec_BusesValid_l1s]; simp only [nlt_dec,cond_false]
omit hp in
theorem iState (on:List Bool) : m_impl_StateValid b ls on=some (stV b ls on):=by
 unfold m_impl_StateValid stV; rw [iNet,len_beq]; rfl
omit hp in
theorem sState (on:List Bool) : m_spec_StateValid b ls on=some (stV b ls on):=by
 unfold m_spec_StateValid stV; rw [sNet,len_beq]; rfl
theorem iFed (on:List Bool) : m_impl_fedValid b ls on pts=some (okV b ls on pts):=by
 unfold m_impl_fedValid okV
 rw [iState,iBuses b ls pts hp]
 cases stV b ls on <;> cases busesV b ls pts <;> rfl
theorem sFed (on:List Bool) : m_spec_l5Ok b ls on pts=some (okV b ls on pts):=by
 unfold m_spec_l5Ok okV
 rw [sState,sBuses b ls pts hp]
 cases stV b ls on <;> cases busesV b ls pts <;> rfl
end
structure StOk (b:Int) (ls:List Ln) (on:List Bool):Prop where
 net:NetOk b ls
 len : on.length=ls.length
theorem stV_iff {b:Int} {ls:List Ln} {on:List Bool} : stV b ls on=true ↔ StOk b ls on:=by
 unfold stV
 rw [Bool.and_eq_true,netV_iff,decide_eq_true_eq]
 exact ⟨fun h=>⟨h.1,h.2⟩,fun h=>⟨h.1,h.2⟩⟩
theorem okV_iff {b:Int} {ls:List Ln} {on:List Bool} {pts:List (Int×Int)} : okV b ls on pts=true ↔ StOk b ls on∧BusOk b ls pts:=by
 unfold okV; rw [Bool.and_eq_true,stV_iff,busesV_iff]
def zl (u:List Nat):List Int:=u.map fun (n:Nat)=>(n:Int)
theorem zl_len (u:List Nat):(zl u).length=u.length:=by simp [zl]
theorem zl_get (u:List Nat) (k:Nat):(zl u).getD k 0=((u.getD k 0:Nat):Int):=by
 unfold zl
 rcases Nat.lt_or_ge k u.length with h | h
 ·simp [List.getD,h]
 ·simp [List.getD,List.getElem?_eq_none h]
theorem zl_set (u:List Nat) (k v:Nat):(zl u).set k (v:Int)=zl (u.set k v):=by simp [zl,List.map_set]
structure UR (u:List Nat) (B:Nat) (f:Nat → Nat):Prop where
 len : u.length=B
 dn:Dn u
 rot : ∀ c,c < B → Rot u c (f c)
theorem UR.le {u:List Nat} {B:Nat} {f:Nat → Nat} (h:UR u B f) {c:Nat} (hc : c < B) : f c ≤ c:=by
 obtain ⟨r,h1,h2⟩:=Rot.ex h.dn c (by rw [h.len]; exact hc)
 rw [(h.rot c hc).uniq h1]; exact h2
theorem find_l {u0:List Nat} {B:Nat} {f:Nat → Nat} (h0 : u0.length=B) : ∀ (c fuel:Nat) (u:List Nat),c < fuel → UR u B f → c < B → ∃ v,m_impl_union_find_l1 (zl u0) fuel (zl u,(c:Int))=some (((f c:Nat):Int),zl v)∧UR v B f:=by
 intro c
 induction c using Nat.strongRecOn with
 | ind c ih =>
  intro fuel u hf hu hc
  obtain ⟨g,rfl⟩ : ∃ g,fuel=g+1:=⟨fuel - 1,by omega⟩
  rw [e_impl_union_find_l1,m_impl_union_find_l1s]
  have hx : ∀ d,d < B → ixB (d:Int) (zl u0).length=true:=fun d hd=>by rw [zl_len,h0]; exact ix_dec hd
  simp only [hx c hc,chk_true,Int.toNat_natCast,zl_get]
  by_cases hr : u.getD c 0=c
  ·have e:(((u.getD c 0:Nat):Int) != (c:Int))=false:=by rw [hr]; simp
   rw [e,(hu.rot c hc).fix hr]
   exact ⟨u,rfl,hu⟩
  ·have e:(((u.getD c 0:Nat):Int) != (c:Int))=true:=by simp only [bne_iff_ne,ne_eq]; omega
   have h1:=hu.dn c (by rw [hu.len]; exact hc)
   have h2:=hu.dn (u.getD c 0) (by rw [hu.len]; omega)
   simp only [e,cond_true,hx _ (show u.getD c 0 < B by omega),chk_true,Int.toNat_natCast,zl_get]
   have h3:(zl u).set c ((u.getD (u.getD c 0) 0:Nat):Int)=zl (u.set c (u.getD (u.getD c 0) 0)):=zl_set _ _ _
   rw [h3,zl_get,uset_get (by rw [hu.len]; exact hc),if_pos rfl]
   have hcl : c < u.length:=by rw [hu.len]; exact hc
   have hv:UR (u.set c (u.getD (u.getD c 0) 0)) B f:=⟨by rw [List.length_set]; exact hu.len,hu.dn.halve hcl,fun d hd=>Rot.halve hu.dn hcl d _ (by rw [hu.len]; exact hd) (hu.rot d hd)⟩
   obtain ⟨v,i1,i2⟩:=ih (u.getD (u.getD c 0) 0) (by omega) g _ (by omega) hv (by omega)
   have hf2 : f (u.getD (u.getD c 0) 0)=f c:=(hu.rot _ (by omega)).uniq ((hu.rot c hc).next.next)
   rw [hf2] at i1
   exact ⟨v,i1,i2⟩
theorem iFindU {u:List Nat} {B:Nat} {f:Nat → Nat} (h:UR u B f) (hB:B ≤ 1099511627776) {c:Nat} (hc : c < B) : ∃ v,m_impl_union_find (zl u) (c:Int)=some (((f c:Nat):Int),zl v)∧UR v B f:=by
 obtain ⟨v,h1,h2⟩:=find_l h.len c FUEL u (fuel_gt (by omega)) h hc
 refine ⟨v,?_,h2⟩
 unfold m_impl_union_find
 rw [h1]; rfl
theorem iSame {u:List Nat} {B:Nat} {f:Nat → Nat} (h:UR u B f) (hB:B ≤ 1099511627776) {a c:Nat} (ha : a < B) (hc : c < B) : ∃ v,m_impl_union_same (zl u) (a:Int) (c:Int)=some (decide (f a=f c),zl v)∧UR v B f:=by
 obtain ⟨v,h1,h2⟩:=iFindU h hB ha
 obtain ⟨x,h3,h4⟩:=iFindU h2 hB hc
 refine ⟨x,?_,h4⟩
 unfold m_impl_union_same
 rw [h1,Option.bind_some,h3,Option.bind_some]
 have:(((f a:Nat):Int) == ((f c:Nat):Int))=decide (f a=f c):=by rw [Bool.eq_iff_iff]; simp; omega
 rw [this]
theorem iJoin {u:List Nat} {B:Nat} {f:Nat → Nat} (h:UR u B f) (hB:B ≤ 1099511627776) {a c:Nat} (ha : a < B) (hc : c < B) : ∃ v,m_impl_union_join (zl u) (a:Int) (c:Int)=some (zl v)∧UR v B (relab f a c):=by
 obtain ⟨v,h1,h2⟩:=iFindU h hB ha
 obtain ⟨x,h3,h4⟩:=iFindU h2 hB hc
 have la:=h.le ha
 have lc:=h.le hc
 refine ⟨x.set (max (f a) (f c)) (min (f a) (f c)),?_,?_⟩
 ·unfold m_impl_union_join
  rw [h1,Option.bind_some,h3,Option.bind_some]
  have e1 : max ((f a:Nat):Int) ((f c:Nat):Int)=((max (f a) (f c):Nat):Int):=by omega
  have e2 : min ((f a:Nat):Int) ((f c:Nat):Int)=((min (f a) (f c):Nat):Int):=by omega
  have hx : ixB ((max (f a) (f c):Nat):Int) (zl u).length=true:=by rw [zl_len,h.len]; exact ix_dec (by omega)
  rw [e1,e2,hx,chk_true,Int.toNat_natCast]
  exact congrArg some (zl_set _ _ _)
 ·have hlen:=h4.len
  refine ⟨by rw [List.length_set]; exact hlen,fun d hd=>?_,fun d hd=>Rot.join h4.dn (fun c hc=>h4.rot c (by omega)) (by omega) (by omega) (fun c hc=>h4.le (by omega)) d (by omega)⟩
  rw [List.length_set] at hd
  rw [uset_get (by omega)]
  split
  ·omega
  ·exact h4.dn d hd
theorem iNew {B : Nat} (hB : B ≤ 1099511627776) : m_impl_newUnion (B : Int) = some (zl (List.range B)) ∧ UR (List.range B) B id := by
  refine ⟨?_, by simp, fun b hb => ?_, fun c hc => ?_⟩
  · unfold m_impl_newUnion
    have hm : mkB (B : Int) = true := by simp [mkB]; omega
    rw [hm, chk_true, Int.toNat_natCast]
    have h := loop_all (m_impl_newUnion_l1 (B : Int)) (fun k => ((List.range B).map (fun (i : Nat) => if i < k then (i : Int) else 0), (k : Int))) B (some (zl (List.range B))) (by omega) (fun k fuel hk => ?_) (fun fuel => ?_)
    · have e : (List.range B).map (fun (i : Nat) => if i < 0 then (i : Int) else 0) = List.replicate B (0 : Int) := by
        apply List.ext_getElem (by simp)
        intro i h1 h2
        simp
      rw [e] at h
      rw [show m_impl_newUnion_l1 (B : Int) FUEL (List.replicate B (0 : Int), 0) = _ from h]; rfl
    · rw [e_impl_newUnion_l1, m_impl_newUnion_l1s]
      simp only [Int.toNat_natCast, lt_dec hk, ix_dec hk, cond_true, chk_true, w64_succ (by omega : k < 4611686018427387904)]
      congr 2
      apply List.ext_getElem (by simp)
      intro i h1 h2
      rw [List.getElem_set]
      simp only [List.getElem_map, List.getElem_range]
      split
      · rename_i e; subst e; rw [if_pos (by omega)]
      · by_cases hi : i < k
        · rw [if_pos hi, if_pos (by omega)]
        · rw [if_neg hi, if_neg (by omega)]
    · rw [e_impl_newUnion_l1, m_impl_newUnion_l1s]
      simp only [Int.toNat_natCast, nlt_dec, cond_false]
      congr 1
      unfold zl
      refine List.map_congr_left fun i hi => ?_
      rw [if_pos (by simpa using hi)]
  · have hb : b < B := by simpa using hb
    simp [List.getD, hb]
  · exact .stop (by simp [List.getD, hc])
theorem ln_nat {b:Int} {l:Ln} (h:LnOk b l) : l.1=(((edgeE l).1:Nat):Int)∧l.2.1=(((edgeE l).2:Nat):Int)∧(edgeE l).1 < b.toNat∧(edgeE l).2 < b.toNat:=by
 have:=h.a; have:=h.b
 unfold edgeE
 dsimp only
 omega
section
variable {b:Int} {ls:List Ln} {on:List Bool} (h:StOk b ls on)
include h
theorem zip_at {k:Nat} (hk : k < ls.length) : onL ((ls.zip on).take (k+1))=if on.getD k false then onL ((ls.zip on).take k)++[edgeE (ls.getD k (0,0,0))] else onL ((ls.zip on).take k):=by
 have hl:=h.len
 have hz : k < (ls.zip on).length:=by simp; omega
 rw [onL_step hz,getD_ge (by omega : k < on.length),getD_ge hk]
 simp
theorem zip_all : onL ((ls.zip on).take ls.length)=onE ls on:=by
 have hl:=h.len
 unfold onE
 rw [List.take_of_length_le (by simp; omega)]
theorem iCyc : m_impl_hasCycle b ls on=some (cycB ls on):=by
 have hb:=h.net.b0; have hb1:=h.net.b1; have hll:=h.net.ll; have hl:=h.len
 obtain ⟨B,rfl⟩ : ∃ B:Nat,b=(B:Int):=⟨b.toNat,by omega⟩
 obtain ⟨n1,n2⟩:=iNew (B:=B) (by omega)
 unfold m_impl_hasCycle cycB
 rw [n1,Option.bind_some]
 have hh:=loop_hunt (m_impl_hasCycle_l1 ls on) (fun k s=>∃ u,s=(zl u,(k:Int))∧UR u B (labs (onL ((ls.zip on).take k)))) ls.length
  (fun k=>on.getD k false && labs (onL ((ls.zip on).take k)) (edgeE (ls.getD k (0,0,0))).1 == labs (onL ((ls.zip on).take k)) (edgeE (ls.getD k (0,0,0))).2) (some (.inr true)) (some (.inl ())) (by omega) ?_ ?_ (zl (List.range B),0) ⟨_,rfl,n2⟩
 ·rw [hh]
  cases (List.range ls.length).any _ <;> rfl
 ·rintro k fuel s hk ⟨u,rfl,hu⟩
  rw [e_impl_hasCycle_l1,m_impl_hasCycle_l1s]
  have hln:=ln_nat (h.net.ln k hk)
  simp only [Int.toNat_natCast] at hln
  simp only [lt_dec hk,ix_dec hk,ix_dec (show k < on.length by omega),chk_true,cond_true,Int.toNat_natCast,w64_succ (by omega : k < 4611686018427387904)]
  rw [hln.1,hln.2.1]
  cases ho : on.getD k false
  ·right
   refine ⟨rfl,(zl u,((k+1:Nat):Int)),⟨u,rfl,?_⟩,rfl⟩
   rw [zip_at h hk,ho]; exact hu
  ·obtain ⟨v,s1,s2⟩:=iSame hu (by omega) hln.2.2.1 hln.2.2.2
   simp only [cond_true,s1,Option.bind_some]
   by_cases he : labs (onL ((ls.zip on).take k)) (edgeE (ls.getD k (0,0,0))).1=labs (onL ((ls.zip on).take k)) (edgeE (ls.getD k (0,0,0))).2
   ·left
    rw [decide_eq_true he]
    exact ⟨by rw [he]; simp,rfl⟩
   ·right
    obtain ⟨x,j1,j2⟩:=iJoin s2 (by omega) hln.2.2.1 hln.2.2.2
    rw [decide_eq_false he]
    simp only [cond_false,j1,Option.bind_some]
    refine ⟨by simpa using he,(zl x,((k+1:Nat):Int)),⟨x,rfl,?_⟩,rfl⟩
    rw [zip_at h hk,ho,if_pos rfl,labs_snoc]; exact j2
 ·rintro fuel s ⟨u,rfl,hu⟩
  rw [e_impl_hasCycle_l1,m_impl_hasCycle_l1s]; simp only [nlt_dec,cond_false]
end
def bl (B:Nat) (s:Nat → Bool):List Bool:=(List.range B).map s
theorem bl_len (B:Nat) (s:Nat → Bool):(bl B s).length=B:=by simp [bl]
theorem bl_get {B c:Nat} {s:Nat → Bool} (h : c < B):(bl B s).getD c false=s c:=by simp [bl,List.getD,h]
theorem bl_set {B a:Nat} {s:Nat → Bool} (h : a < B):(bl B s).set a true=bl B (fun c=>c == a || s c):=by
 apply List.ext_getElem (by simp [bl])
 intro i h1 h2
 rw [List.getElem_set]
 simp only [bl,List.getElem_map,List.getElem_range]
 split
 ·rename_i e; subst e; simp
 ·rename_i e
  have:(i == a)=false:=by simpa using fun e2=>e e2.symm
  rw [this]; rfl
theorem bl_congr {B:Nat} {s t:Nat → Bool} (h : ∀ c,c < B → s c=t c) : bl B s=bl B t:=List.map_congr_left fun c hc=>h c (by simpa using hc)
theorem sweep_snoc (E:Ed) (e:Nat×Nat) (s:Nat → Bool) : sweep (E++[e]) s=hit (sweep E s) e:=by unfold sweep; rw [List.foldl_append]; rfl
section
variable {B:Nat} {ls:List Ln} {on:List Bool} (h:StOk (B:Int) ls on)
include h
theorem sReach_l2 (s:Nat → Bool) : m_spec_l3Reach_l2 (B:Int) ls on FUEL (bl B s,0)=some (bl B (sweep (onE ls on) s)):=by
 have hll:=h.net.ll; have hl:=h.len
 have hh:=loop_all (m_spec_l3Reach_l2 (B:Int) ls on) (fun k=>(bl B (sweep (onL ((ls.zip on).take k)) s),(k:Int))) ls.length (some (bl B (sweep (onE ls on) s))) (by omega) (fun k fuel hk=>?_) (fun fuel=>?_)
 ·exact hh
 ·rw [e_spec_l3Reach_l2,m_spec_l3Reach_l2s]
  have hln:=ln_nat (h.net.ln k hk)
  simp only [Int.toNat_natCast] at hln
  simp only [lt_dec hk,ix_dec hk,ix_dec (show k < on.length by omega),chk_true,cond_true,Int.toNat_natCast,w64_succ (by omega : k < 4611686018427387904)]
  rw [hln.1,hln.2.1]
  rw [zip_at h hk]
  generalize edgeE (ls.getD k (0,0,0))=e at *
  simp only [ix_dec hln.2.2.1,ix_dec hln.2.2.2,Int.toNat_natCast,Bool.or_true,chk_true,bl_len,bl_get hln.2.2.1,bl_get hln.2.2.2]
  cases ho : on.getD k false
  ·rfl
  ·rw [if_pos rfl,sweep_snoc]
   generalize sweep (onL ((ls.zip on).take k)) s=t
   unfold hit
   rw [Bool.true_and]
   cases t e.1 || t e.2
   ·rfl
   ·simp only [cond_true,Option.bind_some,if_true]
    rw [bl_set hln.2.2.1,bl_set hln.2.2.2]
    congr 2
    refine bl_congr fun c hc=>?_
    cases c == e.1 <;> cases c == e.2 <;> rfl
 ·rw [e_spec_l3Reach_l2,m_spec_l3Reach_l2s]
  simp only [nlt_dec,cond_false]
  rw [zip_all h]
theorem sReach {b:Nat} (hb : b < B) : m_spec_l3Reach (B:Int) ls on (b:Int)=some (bl B (sweeps (onE ls on) (fun c=>c == b) B)):=by
 have h1:=h.net.b1
 unfold m_spec_l3Reach
 have hm : mkB (B:Int)=true:=by simp [mkB]; omega
 rw [hm,chk_true,Int.toNat_natCast,ix_dec hb,chk_true,Int.toNat_natCast]
 have e:(List.replicate B false).set b true=bl B (fun c=>c == b):=by
  apply List.ext_getElem (by simp [bl])
  intro i h1 h2
  rw [List.getElem_set]
  simp only [bl,List.getElem_map,List.getElem_range,List.getElem_replicate]
  split
  ·rename_i e; subst e; simp
  ·rename_i e; symm; simpa using fun e2=>e e2.symm
 have hh:=loop_all (m_spec_l3Reach_l1 (B:Int) ls on) (fun k=>(bl B (sweeps (onE ls on) (fun c=>c == b) k),(k:Int))) B (some (bl B (sweeps (onE ls on) (fun c=>c == b) B))) (by omega) (fun k fuel hk=>?_) (fun fuel=>?_)
 ·rw [e,show m_spec_l3Reach_l1 (B:Int) ls on FUEL (bl B (fun c=>c == b),0)=_ from hh]; rfl
 ·rw [e_spec_l3Reach_l1,m_spec_l3Reach_l1s]
  simp only [lt_dec hk,cond_true,sReach_l2 h,Option.bind_some,w64_succ (by omega : k < 4611686018427387904)]
  rfl
 ·rw [e_spec_l3Reach_l1,m_spec_l3Reach_l1s]; simp only [nlt_dec,cond_false]
theorem st_lt : ∀ e ∈ onE ls on,e.1 < B∧e.2 < B:=by
 intro e he
 obtain ⟨k,hk,_,rfl⟩:=onE_mem.1 he
 have:=ln_nat (h.net.ln k hk)
 simp only [Int.toNat_natCast] at this
 exact ⟨this.2.2.1,this.2.2.2⟩
theorem sweeps_labs {b:Nat} (hb : b < B) (c:Nat) : sweeps (onE ls on) (fun c=>c == b) B c=(labs (onE ls on) b == labs (onE ls on) c):=by
 rw [Bool.eq_iff_iff,sweeps_cn (st_lt h) hb,beq_iff_eq,labs_cn]
def reachL (E:Ed) (B b:Nat):List Nat:=(List.range B).filter fun c=>labs E b == labs E c
theorem sReached {b:Nat} (hb : b < B) : m_spec_Reached (B:Int) ls on (b:Int)=some (zl (reachL (onE ls on) B b)):=by
 have h1:=h.net.b1
 unfold m_spec_Reached m_spec_l1In
 have w1 : w64 ((B:Int) - 1)=(B:Int) - 1:=w64_in (by omega) (by omega)
 have c1:(leB 0 (b:Int) && leB (b:Int) ((B:Int) - 1))=true:=by simp [leB]; omega
 rw [sState,stV_iff.2 h,Option.bind_some,w1,c1]
 simp only [Bool.not_true,Bool.not_false,gb_true,Option.bind_some,Bool.or_self,cond_false,sReach h hb]
 have e : bl B (sweeps (onE ls on) (fun c=>c == b) B)=bl B (fun c=>labs (onE ls on) b == labs (onE ls on) c):=bl_congr fun c _=>sweeps_labs h hb c
 rw [e]
 have hh:=loop_all (m_spec_Reached_l1 (B:Int) (bl B (fun c=>labs (onE ls on) b == labs (onE ls on) c))) (fun k=>(zl ((List.range k).filter fun c=>labs (onE ls on) b == labs (onE ls on) c),(k:Int))) B (some (zl (reachL (onE ls on) B b))) (by omega) (fun k fuel hk=>?_) (fun fuel=>?_)
 ·rw [show m_spec_Reached_l1 (B:Int) _ FUEL (([]:List Int),0)=_ from hh]; rfl
 ·rw [e_spec_Reached_l1,m_spec_Reached_l1s]
  have hl:(zl ((List.range k).filter fun c=>labs (onE ls on) b == labs (onE ls on) c)).length ≤ k:=by
   rw [zl_len]; have:=List.length_filter_le (fun c=>labs (onE ls on) b == labs (onE ls on) c) (List.range k); simpa using this
  have ha : ∀ x:Int,apB (zl ((List.range k).filter fun c=>labs (onE ls on) b == labs (onE ls on) c)).length [x].length=true:=fun x=>by simp [apB]; omega
  simp only [lt_dec hk,cond_true,bl_len,ix_dec hk,chk_true,Int.toNat_natCast,bl_get hk,ha,w64_succ (by omega : k < 4611686018427387904)]
  rw [List.range_succ,List.filter_append]
  cases hc : labs (onE ls on) b == labs (onE ls on) k
  ·simp [hc,List.filter_cons]
  ·simp [hc,List.filter_cons,zl]
 ·rw [e_spec_Reached_l1,m_spec_Reached_l1s]; simp only [nlt_dec,cond_false]; rfl
omit h in
theorem sHas (l:List Int) (x:Int) (hl : l.length ≤ 1099511627776) : m_spec_l1Has l x=some (decide (x ∈ l)):=by
 unfold m_spec_l1Has
 have hh:=loop_find (m_spec_l1Has_l1 l x) (fun k=>(k:Int)) l.length (fun k=>l.getD k 0 == x) (some (.inr true)) (some (.inl ())) hl (fun k fuel hk=>?_) (fun fuel=>?_)
 ·rw [show m_spec_l1Has_l1 l x FUEL 0=_ from hh,any_list l 0 (fun y=>y == x)]
  have : l.any (fun y=>y == x)=decide (x ∈ l):=by
   rw [Bool.eq_iff_iff,List.any_eq_true,decide_eq_true_eq]
   exact ⟨fun ⟨y,h1,h2⟩=>by rw [← (beq_iff_eq.1 h2)]; exact h1,fun h=>⟨x,h,by simp⟩⟩
  rw [this]
  cases decide (x ∈ l) <;> rfl
 ·rw [e_spec_l1Has_l1,m_spec_l1Has_l1s]
  simp only [lt_dec hk,ix_dec hk,chk_true,cond_true,Int.toNat_natCast,w64_succ (by omega : k < 4611686018427387904)]
 ·rw [e_spec_l1Has_l1,m_spec_l1Has_l1s]; simp only [nlt_dec,cond_false]
omit h in
theorem zl_mem {l:List Nat} {c:Nat}:(c:Int) ∈ zl l ↔ c ∈ l:=by
 simp only [zl,List.mem_map]
 constructor
 ·rintro ⟨a,h1,h2⟩; have : a=c:=by omega
  subst this; exact h1
 ·intro h; exact ⟨c,h,rfl⟩
omit h in
theorem reachL_len (E:Ed) (B b:Nat):(reachL E B b).length ≤ B:=by
 unfold reachL; have:=List.length_filter_le (fun c=>labs E b == labs E c) (List.range B); simpa using this
theorem sSame {a c:Nat} (ha : a < B) (hc : c < B) : m_spec_SameIsland (B:Int) ls on (a:Int) (c:Int)=some (labs (onE ls on) a == labs (onE ls on) c):=by
 have h1:=h.net.b1
 unfold m_spec_SameIsland
 have hl:=reachL_len (onE ls on) B a
 rw [sReached h ha,Option.bind_some,sHas _ _ (by rw [zl_len]; omega),Option.bind_some]
 have : decide ((c:Int) ∈ zl (reachL (onE ls on) B a))=(labs (onE ls on) a == labs (onE ls on) c):=by
  rw [Bool.eq_iff_iff,decide_eq_true_eq,zl_mem]
  simp [reachL,hc]
 rw [this]
def cyAt (ls:List Ln) (on:List Bool) (k:Nat):Bool:=on.getD k false && labs (onE ls (on.set k false)) (edgeE (ls.getD k (0,0,0))).1 == labs (onE ls (on.set k false)) (edgeE (ls.getD k (0,0,0))).2
theorem off_ok (k:Nat):StOk (B:Int) ls (on.set k false):=⟨h.net,by rw [List.length_set]; exact h.len⟩
theorem sCyc : m_spec_HasCycle (B:Int) ls on=some (cycP ls on):=by
 have hll:=h.net.ll; have hl:=h.len
 unfold m_spec_HasCycle m_spec_CycleLines
 have hh:=loop_all (m_spec_CycleLines_l1 (B:Int) ls on) (fun k=>(zl ((List.range k).filter (cyAt ls on)),(k:Int))) ls.length
  (some (zl ((List.range ls.length).filter (cyAt ls on)))) (by omega) (fun k fuel hk=>?_) (fun fuel=>?_)
 ·rw [show m_spec_CycleLines_l1 (B:Int) ls on FUEL (([]:List Int),0)=_ from hh]
  simp only [Option.bind_some,zl_len]
  congr 1
  show ltB 0 (((List.range ls.length).filter (cyAt ls on)).length:Int)=(List.range ls.length).any (cyAt ls on)
  rw [Bool.eq_iff_iff,ltB,decide_eq_true_eq,List.any_eq_true]
  constructor
  ·intro h1
   obtain ⟨k,hk⟩:=List.exists_mem_of_length_pos (show 0 < ((List.range ls.length).filter (cyAt ls on)).length by omega)
   obtain ⟨h2,h3⟩:=List.mem_filter.1 hk
   exact ⟨k,h2,h3⟩
  ·rintro ⟨k,h2,h3⟩
   have:=List.length_pos_of_mem (List.mem_filter.2 ⟨h2,h3⟩)
   omega
 ·rw [e_spec_CycleLines_l1,m_spec_CycleLines_l1s]
  have hln:=ln_nat (h.net.ln k hk)
  simp only [Int.toNat_natCast] at hln
  have hkn : k < on.length:=by omega
  have w1 : w64 ((on.length:Int) - 1)=(on.length:Int) - 1:=w64_in (by omega) (by omega)
  have c1:(leB 0 (k:Int) && leB (k:Int) ((on.length:Int) - 1))=true:=by simp [leB]; omega
  have a1 : apB ([]:List Bool).length on.length=true:=by simp [apB]; omega
  have hl2:=List.length_filter_le (cyAt ls on) (List.range k)
  rw [List.length_range] at hl2
  have ha : ∀ x:Int,apB (zl ((List.range k).filter (cyAt ls on))).length [x].length=true:=fun x=>by rw [zl_len]; simp [apB]; omega
  have hsw : m_spec_SwitchLine (B:Int) ls on (k:Int) false=some (on.set k false,true):=by
   unfold m_spec_SwitchLine m_spec_l2Copy m_spec_l1In
   rw [sState,stV_iff.2 h]
   simp only [Option.bind_some,cond_true,a1,chk_true,List.nil_append,w1,c1,ix_dec hkn,Int.toNat_natCast]
  have hsame:=sSame (off_ok h k) hln.2.2.1 hln.2.2.2
  rw [sState,stV_iff.2 h]
  simp only [lt_dec hkn,gb_true,Option.bind_some,Bool.and_self,cond_true,hsw,ix_dec hkn,ix_dec hk,Bool.or_true,chk_true,Int.toNat_natCast,ha,w64_succ (by omega : k < 4611686018427387904)]
  rw [hln.1,hln.2.1,hsame,List.range_succ,List.filter_append]
  have hcy : cyAt ls on k=(on.getD k false && labs (onE ls (on.set k false)) (edgeE (ls.getD k (0,0,0))).1 == labs (onE ls (on.set k false)) (edgeE (ls.getD k (0,0,0))).2):=rfl
  rw [List.filter_cons,List.filter_nil,hcy]
  cases ho : on.getD k false
  ·simp [gb]
  ·cases hc : labs (onE ls (on.set k false)) (edgeE (ls.getD k (0,0,0))).1 == labs (onE ls (on.set k false)) (edgeE (ls.getD k (0,0,0))).2
   ·simp [gb]
   ·simp [gb,zl]
 ·rw [e_spec_CycleLines_l1,m_spec_CycleLines_l1s]
  have : ltB (ls.length:Int) (on.length:Int)=false:=by rw [hl]; exact nlt_dec
  simp only [this,gb_false,Option.bind_some,Bool.false_and,cond_false]
end
end Go.Proofs.YtjdlgannencchaaGreatDoor
