/- Plain laws of the helpers of the laws. -/
import Derived.Test.YtcmnjaccapbhfaaGreatQPu
import Derived.Test.YtcmnjaccapbhfaaGreatQDaM
namespace Go.Proofs.YtcmnjaccapbhfaaGreat
set_option linter.unusedVariables false
set_option linter.unusedSimpArgs false
theorem sz_LineS (x0:List (Int×Int×Int)) (x1:Int) (hx0 : x0.length ≤ 9223372036854775807) (h0 : 0 ≤ x1∧x1 ≤ 1048576) : m_laws_szLineS x0 x1=some (if x1 < (x0.length:Int) then -1 else x1 - ((x0.length:Int))):=by
 simp (disch:=omega) [m_laws_szLineS,chk,gb,w64_succ,w64_id,Int.toNat_natCast,getD_ge,Bool.cond_decide,ltB,leB,ixB,nzB,nnB]
 try (repeat' split)
 all_goals first | rfl | omega | (congr 1; omega)
theorem sz_Net (x0:Int) (x1:List (Int×Int×Int)) (x2:Int) (hx1 : x1.length ≤ 9223372036854775807) (h0 : 0 ≤ x2∧x2 ≤ 1048576) : m_laws_szNet x0 x1 x2=some (if x2 < (x1.length:Int) then -1 else x2 - ((x1.length:Int))):=by
 simp (disch:=omega) [m_laws_szNet,chk,gb,w64_succ,w64_id,Int.toNat_natCast,getD_ge,Bool.cond_decide,ltB,leB,ixB,nzB,nnB,sz_LineS]
 try (repeat' split)
 all_goals first | rfl | omega | (congr 1; omega)
theorem sz_BusS (x0:List (Int×Int)) (x1:Int) (hx0 : x0.length ≤ 9223372036854775807) (h0 : 0 ≤ x1∧x1 ≤ 1048576) : m_laws_szBusS x0 x1=some (if x1 < (x0.length:Int) then -1 else x1 - ((x0.length:Int))):=by
 simp (disch:=omega) [m_laws_szBusS,chk,gb,w64_succ,w64_id,Int.toNat_natCast,getD_ge,Bool.cond_decide,ltB,leB,ixB,nzB,nnB,sz_LineS,sz_Net]
 try (repeat' split)
 all_goals first | rfl | omega | (congr 1; omega)
theorem sz_BoolS (x0:List Bool) (x1:Int) (hx0 : x0.length ≤ 9223372036854775807) (h0 : 0 ≤ x1∧x1 ≤ 1048576) : m_laws_szBoolS x0 x1=some (if x1 < (x0.length:Int) then -1 else x1 - ((x0.length:Int))):=by
 simp (disch:=omega) [m_laws_szBoolS,chk,gb,w64_succ,w64_id,Int.toNat_natCast,getD_ge,Bool.cond_decide,ltB,leB,ixB,nzB,nnB,sz_LineS,sz_Net,sz_BusS]
 try (repeat' split)
 all_goals first | rfl | omega | (congr 1; omega)
theorem sz_PermitS (x0:List (Int×Int)) (x1:Int) (hx0 : x0.length ≤ 9223372036854775807) (h0 : 0 ≤ x1∧x1 ≤ 1048576) : m_laws_szPermitS x0 x1=some (if x1 < (x0.length:Int) then -1 else x1 - ((x0.length:Int))):=by
 simp (disch:=omega) [m_laws_szPermitS,chk,gb,w64_succ,w64_id,Int.toNat_natCast,getD_ge,Bool.cond_decide,ltB,leB,ixB,nzB,nnB,sz_LineS,sz_Net,sz_BusS,sz_BoolS]
 try (repeat' split)
 all_goals first | rfl | omega | (congr 1; omega)
theorem sz_Work (x0:List Bool) (x1:List Bool) (x2:List (Int×Int)) (x3:Int) (hx0 : x0.length ≤ 9223372036854775807) (hx1 : x1.length ≤ 9223372036854775807) (hx2 : x2.length ≤ 9223372036854775807) (h0 : 0 ≤ x3∧x3 ≤ 1048576) : m_laws_szWork x0 x1 x2 x3=some (if x3 < (x0.length:Int)+(x1.length:Int)+(x2.length:Int) then -1 else x3 - ((x0.length:Int)+(x1.length:Int)+(x2.length:Int))):=by
 simp (disch:=omega) [m_laws_szWork,chk,gb,w64_succ,w64_id,Int.toNat_natCast,getD_ge,Bool.cond_decide,ltB,leB,ixB,nzB,nnB,sz_LineS,sz_Net,sz_BusS,sz_BoolS,sz_PermitS]
 try (repeat' split)
 all_goals first | rfl | omega | (congr 1; omega)
theorem sz_IntS (x0:List Int) (x1:Int) (hx0 : x0.length ≤ 9223372036854775807) (h0 : 0 ≤ x1∧x1 ≤ 1048576) : m_laws_szIntS x0 x1=some (if x1 < (x0.length:Int) then -1 else x1 - ((x0.length:Int))):=by
 simp (disch:=omega) [m_laws_szIntS,chk,gb,w64_succ,w64_id,Int.toNat_natCast,getD_ge,Bool.cond_decide,ltB,leB,ixB,nzB,nnB,sz_LineS,sz_Net,sz_BusS,sz_BoolS,sz_PermitS,sz_Work]
 try (repeat' split)
 all_goals first | rfl | omega | (congr 1; omega)
theorem sz_World (x0:Int) (x1:List (Int×Int×Int)) (x2:List (Int×Int)) (x3:List Bool) (x4:List Bool) (x5:List (Int×Int)) (x6:List Int) (x7:Int) (hx1 : x1.length ≤ 9223372036854775807) (hx2 : x2.length ≤ 9223372036854775807) (hx3 : x3.length ≤ 9223372036854775807) (hx4 : x4.length ≤ 9223372036854775807) (hx5 : x5.length ≤ 9223372036854775807) (hx6 : x6.length ≤ 9223372036854775807) (h0 : 0 ≤ x7∧x7 ≤ 1048576) : m_laws_szWorld x0 x1 x2 x3 x4 x5 x6 x7=some (if x7 < (x1.length:Int)+(x2.length:Int)+(x3.length:Int)+(x4.length:Int)+(x5.length:Int)+(x6.length:Int) then -1 else x7 - ((x1.length:Int)+(x2.length:Int)+(x3.length:Int)+(x4.length:Int)+(x5.length:Int)+(x6.length:Int))):=by
 simp (disch:=omega) [m_laws_szWorld,chk,gb,w64_succ,w64_id,Int.toNat_natCast,getD_ge,Bool.cond_decide,ltB,leB,ixB,nzB,nnB,sz_LineS,sz_Net,sz_BusS,sz_BoolS,sz_PermitS,sz_Work,sz_IntS]
 try (repeat' split)
 all_goals first | rfl | omega | (congr 1; omega)
theorem to_Line (x0:Int) (x1:Int) (x2:Int)  : m_laws_toLine x0 x1 x2=some (x0,x1,x2):=by
 simp (disch:=omega) [m_laws_toLine,chk,gb,w64_succ,w64_id,Int.toNat_natCast,getD_ge,Bool.cond_decide,ltB,leB,ixB,nzB,nnB,sz_LineS,sz_Net,sz_BusS,sz_BoolS,sz_PermitS,sz_Work,sz_IntS,sz_World]
theorem to_LineS (x0:List (Int×Int×Int)) (hx0 : x0.length ≤ 1048576) : m_laws_toLineS x0=some x0:=by
 have h:=to_loop (m_laws_toLineS_l1 x0) x0 (List.replicate x0.length ((0,0,0):Int×Int×Int)) (by simp) hx0 (fun fuel l j hj hl=>by simp (disch:=omega) [m_laws_toLineS_l1,hj,hl,chk,gb,w64_succ,w64_id,Int.toNat_natCast,getD_ge,Bool.cond_decide,ltB,leB,ixB,nzB,nnB,sz_LineS,sz_Net,sz_BusS,sz_BoolS,sz_PermitS,sz_Work,sz_IntS,sz_World,to_Line]) (fun fuel l hl=>by simp [m_laws_toLineS_l1,ltB])
 have hc : mkB (x0.length:Int)=true:=by simp [mkB]; omega
 simp only [m_laws_toLineS,hc,chk_true,h,Option.bind_some]
theorem to_Net (x0:Int) (x1:List (Int×Int×Int)) (hx1 : x1.length ≤ 1048576) : m_laws_toNet x0 x1=some (x0,x1):=by
 simp (disch:=omega) [m_laws_toNet,chk,gb,w64_succ,w64_id,Int.toNat_natCast,getD_ge,Bool.cond_decide,ltB,leB,ixB,nzB,nnB,sz_LineS,sz_Net,sz_BusS,sz_BoolS,sz_PermitS,sz_Work,sz_IntS,sz_World,to_Line,to_LineS]
theorem to_Bus (x0:Int) (x1:Int)  : m_laws_toBus x0 x1=some (x0,x1):=by
 simp (disch:=omega) [m_laws_toBus,chk,gb,w64_succ,w64_id,Int.toNat_natCast,getD_ge,Bool.cond_decide,ltB,leB,ixB,nzB,nnB,sz_LineS,sz_Net,sz_BusS,sz_BoolS,sz_PermitS,sz_Work,sz_IntS,sz_World,to_Line,to_LineS,to_Net]
theorem to_BusS (x0:List (Int×Int)) (hx0 : x0.length ≤ 1048576) : m_laws_toBusS x0=some x0:=by
 have h:=to_loop (m_laws_toBusS_l1 x0) x0 (List.replicate x0.length ((0,0):Int×Int)) (by simp) hx0 (fun fuel l j hj hl=>by simp (disch:=omega) [m_laws_toBusS_l1,hj,hl,chk,gb,w64_succ,w64_id,Int.toNat_natCast,getD_ge,Bool.cond_decide,ltB,leB,ixB,nzB,nnB,sz_LineS,sz_Net,sz_BusS,sz_BoolS,sz_PermitS,sz_Work,sz_IntS,sz_World,to_Line,to_LineS,to_Net,to_Bus]) (fun fuel l hl=>by simp [m_laws_toBusS_l1,ltB])
 have hc : mkB (x0.length:Int)=true:=by simp [mkB]; omega
 simp only [m_laws_toBusS,hc,chk_true,h,Option.bind_some]
theorem to_BoolS (x0:List Bool) (hx0 : x0.length ≤ 1048576) : m_laws_toBoolS x0=some x0:=by
 have h:=to_loop (m_laws_toBoolS_l1 x0) x0 (List.replicate x0.length false) (by simp) hx0 (fun fuel l j hj hl=>by simp (disch:=omega) [m_laws_toBoolS_l1,hj,hl,chk,gb,w64_succ,w64_id,Int.toNat_natCast,getD_ge,Bool.cond_decide,ltB,leB,ixB,nzB,nnB,sz_LineS,sz_Net,sz_BusS,sz_BoolS,sz_PermitS,sz_Work,sz_IntS,sz_World,to_Line,to_LineS,to_Net,to_Bus,to_BusS]) (fun fuel l hl=>by simp [m_laws_toBoolS_l1,ltB])
 have hc : mkB (x0.length:Int)=true:=by simp [mkB]; omega
 simp only [m_laws_toBoolS,hc,chk_true,h,Option.bind_some]
theorem to_Permit (x0:Int) (x1:Int)  : m_laws_toPermit x0 x1=some (x0,x1):=by
 simp (disch:=omega) [m_laws_toPermit,chk,gb,w64_succ,w64_id,Int.toNat_natCast,getD_ge,Bool.cond_decide,ltB,leB,ixB,nzB,nnB,sz_LineS,sz_Net,sz_BusS,sz_BoolS,sz_PermitS,sz_Work,sz_IntS,sz_World,to_Line,to_LineS,to_Net,to_Bus,to_BusS,to_BoolS]
theorem to_PermitS (x0:List (Int×Int)) (hx0 : x0.length ≤ 1048576) : m_laws_toPermitS x0=some x0:=by
 have h:=to_loop (m_laws_toPermitS_l1 x0) x0 (List.replicate x0.length ((0,0):Int×Int)) (by simp) hx0 (fun fuel l j hj hl=>by simp (disch:=omega) [m_laws_toPermitS_l1,hj,hl,chk,gb,w64_succ,w64_id,Int.toNat_natCast,getD_ge,Bool.cond_decide,ltB,leB,ixB,nzB,nnB,sz_LineS,sz_Net,sz_BusS,sz_BoolS,sz_PermitS,sz_Work,sz_IntS,sz_World,to_Line,to_LineS,to_Net,to_Bus,to_BusS,to_BoolS,to_Permit]) (fun fuel l hl=>by simp [m_laws_toPermitS_l1,ltB])
 have hc : mkB (x0.length:Int)=true:=by simp [mkB]; omega
 simp only [m_laws_toPermitS,hc,chk_true,h,Option.bind_some]
theorem to_Work (x0:List Bool) (x1:List Bool) (x2:List (Int×Int)) (hx0 : x0.length ≤ 1048576) (hx1 : x1.length ≤ 1048576) (hx2 : x2.length ≤ 1048576) : m_laws_toWork x0 x1 x2=some (x0,x1,x2):=by
 simp (disch:=omega) [m_laws_toWork,chk,gb,w64_succ,w64_id,Int.toNat_natCast,getD_ge,Bool.cond_decide,ltB,leB,ixB,nzB,nnB,sz_LineS,sz_Net,sz_BusS,sz_BoolS,sz_PermitS,sz_Work,sz_IntS,sz_World,to_Line,to_LineS,to_Net,to_Bus,to_BusS,to_BoolS,to_Permit,to_PermitS]
theorem to_IntS (x0:List Int) (hx0 : x0.length ≤ 1048576) : m_laws_toIntS x0=some x0:=by
 have h:=to_loop (m_laws_toIntS_l1 x0) x0 (List.replicate x0.length (0:Int)) (by simp) hx0 (fun fuel l j hj hl=>by simp (disch:=omega) [m_laws_toIntS_l1,hj,hl,chk,gb,w64_succ,w64_id,Int.toNat_natCast,getD_ge,Bool.cond_decide,ltB,leB,ixB,nzB,nnB,sz_LineS,sz_Net,sz_BusS,sz_BoolS,sz_PermitS,sz_Work,sz_IntS,sz_World,to_Line,to_LineS,to_Net,to_Bus,to_BusS,to_BoolS,to_Permit,to_PermitS,to_Work]) (fun fuel l hl=>by simp [m_laws_toIntS_l1,ltB])
 have hc : mkB (x0.length:Int)=true:=by simp [mkB]; omega
 simp only [m_laws_toIntS,hc,chk_true,h,Option.bind_some]
theorem to_World (x0:Int) (x1:List (Int×Int×Int)) (x2:List (Int×Int)) (x3:List Bool) (x4:List Bool) (x5:List (Int×Int)) (x6:List Int) (hx1 : x1.length ≤ 1048576) (hx2 : x2.length ≤ 1048576) (hx3 : x3.length ≤ 1048576) (hx4 : x4.length ≤ 1048576) (hx5 : x5.length ≤ 1048576) (hx6 : x6.length ≤ 1048576) : m_laws_toWorld x0 x1 x2 x3 x4 x5 x6=some (x0,x1,x2,x3,x4,x5,x6):=by
 simp (disch:=omega) [m_laws_toWorld,chk,gb,w64_succ,w64_id,Int.toNat_natCast,getD_ge,Bool.cond_decide,ltB,leB,ixB,nzB,nnB,sz_LineS,sz_Net,sz_BusS,sz_BoolS,sz_PermitS,sz_Work,sz_IntS,sz_World,to_Line,to_LineS,to_Net,to_Bus,to_BusS,to_BoolS,to_Permit,to_PermitS,to_Work,to_IntS]
theorem to_WorkDeed (x0:Int) (x1:Int) (x2:Int)  : m_laws_toWorkDeed x0 x1 x2=some (x0,x1,x2):=by
 simp (disch:=omega) [m_laws_toWorkDeed,chk,gb,w64_succ,w64_id,Int.toNat_natCast,getD_ge,Bool.cond_decide,ltB,leB,ixB,nzB,nnB,sz_LineS,sz_Net,sz_BusS,sz_BoolS,sz_PermitS,sz_Work,sz_IntS,sz_World,to_Line,to_LineS,to_Net,to_Bus,to_BusS,to_BoolS,to_Permit,to_PermitS,to_Work,to_IntS,to_World]
theorem eq_Line (x0:Int) (x1:Int) (x2:Int)  : m_laws_eqLine x0 x1 x2 x0 x1 x2=some true:=by
 simp (disch:=omega) [m_laws_eqLine,chk,gb,w64_succ,w64_id,Int.toNat_natCast,getD_ge,Bool.cond_decide,ltB,leB,ixB,nzB,nnB,sz_LineS,sz_Net,sz_BusS,sz_BoolS,sz_PermitS,sz_Work,sz_IntS,sz_World,to_Line,to_LineS,to_Net,to_Bus,to_BusS,to_BoolS,to_Permit,to_PermitS,to_Work,to_IntS,to_World,to_WorkDeed]
theorem eq_LineS (x0:List (Int×Int×Int)) (hx0 : x0.length ≤ 1048576) : m_laws_eqLineS x0 x0=some true:=by
 have h:=eq_loop (m_laws_eqLineS_l1 x0 x0) x0.length hx0 (some (.inl ())) (fun fuel j hj=>by simp (disch:=omega) [m_laws_eqLineS_l1,hj,chk,gb,w64_succ,w64_id,Int.toNat_natCast,getD_ge,Bool.cond_decide,ltB,leB,ixB,nzB,nnB,sz_LineS,sz_Net,sz_BusS,sz_BoolS,sz_PermitS,sz_Work,sz_IntS,sz_World,to_Line,to_LineS,to_Net,to_Bus,to_BusS,to_BoolS,to_Permit,to_PermitS,to_Work,to_IntS,to_World,to_WorkDeed,eq_Line]) (fun fuel=>by simp [m_laws_eqLineS_l1,ltB])
 simp [m_laws_eqLineS,h]
theorem eq_Net (x0:Int) (x1:List (Int×Int×Int)) (hx1 : x1.length ≤ 1048576) : m_laws_eqNet x0 x1 x0 x1=some true:=by
 simp (disch:=omega) [m_laws_eqNet,chk,gb,w64_succ,w64_id,Int.toNat_natCast,getD_ge,Bool.cond_decide,ltB,leB,ixB,nzB,nnB,sz_LineS,sz_Net,sz_BusS,sz_BoolS,sz_PermitS,sz_Work,sz_IntS,sz_World,to_Line,to_LineS,to_Net,to_Bus,to_BusS,to_BoolS,to_Permit,to_PermitS,to_Work,to_IntS,to_World,to_WorkDeed,eq_Line,eq_LineS]
theorem eq_Bus (x0:Int) (x1:Int)  : m_laws_eqBus x0 x1 x0 x1=some true:=by
 simp (disch:=omega) [m_laws_eqBus,chk,gb,w64_succ,w64_id,Int.toNat_natCast,getD_ge,Bool.cond_decide,ltB,leB,ixB,nzB,nnB,sz_LineS,sz_Net,sz_BusS,sz_BoolS,sz_PermitS,sz_Work,sz_IntS,sz_World,to_Line,to_LineS,to_Net,to_Bus,to_BusS,to_BoolS,to_Permit,to_PermitS,to_Work,to_IntS,to_World,to_WorkDeed,eq_Line,eq_LineS,eq_Net]
theorem eq_BusS (x0:List (Int×Int)) (hx0 : x0.length ≤ 1048576) : m_laws_eqBusS x0 x0=some true:=by
 have h:=eq_loop (m_laws_eqBusS_l1 x0 x0) x0.length hx0 (some (.inl ())) (fun fuel j hj=>by simp (disch:=omega) [m_laws_eqBusS_l1,hj,chk,gb,w64_succ,w64_id,Int.toNat_natCast,getD_ge,Bool.cond_decide,ltB,leB,ixB,nzB,nnB,sz_LineS,sz_Net,sz_BusS,sz_BoolS,sz_PermitS,sz_Work,sz_IntS,sz_World,to_Line,to_LineS,to_Net,to_Bus,to_BusS,to_BoolS,to_Permit,to_PermitS,to_Work,to_IntS,to_World,to_WorkDeed,eq_Line,eq_LineS,eq_Net,eq_Bus]) (fun fuel=>by simp [m_laws_eqBusS_l1,ltB])
 simp [m_laws_eqBusS,h]
theorem eq_BoolS (x0:List Bool) (hx0 : x0.length ≤ 1048576) : m_laws_eqBoolS x0 x0=some true:=by
 have h:=eq_loop (m_laws_eqBoolS_l1 x0 x0) x0.length hx0 (some (.inl ())) (fun fuel j hj=>by simp (disch:=omega) [m_laws_eqBoolS_l1,hj,chk,gb,w64_succ,w64_id,Int.toNat_natCast,getD_ge,Bool.cond_decide,ltB,leB,ixB,nzB,nnB,sz_LineS,sz_Net,sz_BusS,sz_BoolS,sz_PermitS,sz_Work,sz_IntS,sz_World,to_Line,to_LineS,to_Net,to_Bus,to_BusS,to_BoolS,to_Permit,to_PermitS,to_Work,to_IntS,to_World,to_WorkDeed,eq_Line,eq_LineS,eq_Net,eq_Bus,eq_BusS]) (fun fuel=>by simp [m_laws_eqBoolS_l1,ltB])
 simp [m_laws_eqBoolS,h]
theorem eq_Permit (x0:Int) (x1:Int)  : m_laws_eqPermit x0 x1 x0 x1=some true:=by
 simp (disch:=omega) [m_laws_eqPermit,chk,gb,w64_succ,w64_id,Int.toNat_natCast,getD_ge,Bool.cond_decide,ltB,leB,ixB,nzB,nnB,sz_LineS,sz_Net,sz_BusS,sz_BoolS,sz_PermitS,sz_Work,sz_IntS,sz_World,to_Line,to_LineS,to_Net,to_Bus,to_BusS,to_BoolS,to_Permit,to_PermitS,to_Work,to_IntS,to_World,to_WorkDeed,eq_Line,eq_LineS,eq_Net,eq_Bus,eq_BusS,eq_BoolS]
theorem eq_PermitS (x0:List (Int×Int)) (hx0 : x0.length ≤ 1048576) : m_laws_eqPermitS x0 x0=some true:=by
 have h:=eq_loop (m_laws_eqPermitS_l1 x0 x0) x0.length hx0 (some (.inl ())) (fun fuel j hj=>by simp (disch:=omega) [m_laws_eqPermitS_l1,hj,chk,gb,w64_succ,w64_id,Int.toNat_natCast,getD_ge,Bool.cond_decide,ltB,leB,ixB,nzB,nnB,sz_LineS,sz_Net,sz_BusS,sz_BoolS,sz_PermitS,sz_Work,sz_IntS,sz_World,to_Line,to_LineS,to_Net,to_Bus,to_BusS,to_BoolS,to_Permit,to_PermitS,to_Work,to_IntS,to_World,to_WorkDeed,eq_Line,eq_LineS,eq_Net,eq_Bus,eq_BusS,eq_BoolS,eq_Permit]) (fun fuel=>by simp [m_laws_eqPermitS_l1,ltB])
 simp [m_laws_eqPermitS,h]
theorem eq_Work (x0:List Bool) (x1:List Bool) (x2:List (Int×Int)) (hx0 : x0.length ≤ 1048576) (hx1 : x1.length ≤ 1048576) (hx2 : x2.length ≤ 1048576) : m_laws_eqWork x0 x1 x2 x0 x1 x2=some true:=by
 simp (disch:=omega) [m_laws_eqWork,chk,gb,w64_succ,w64_id,Int.toNat_natCast,getD_ge,Bool.cond_decide,ltB,leB,ixB,nzB,nnB,sz_LineS,sz_Net,sz_BusS,sz_BoolS,sz_PermitS,sz_Work,sz_IntS,sz_World,to_Line,to_LineS,to_Net,to_Bus,to_BusS,to_BoolS,to_Permit,to_PermitS,to_Work,to_IntS,to_World,to_WorkDeed,eq_Line,eq_LineS,eq_Net,eq_Bus,eq_BusS,eq_BoolS,eq_Permit,eq_PermitS]
theorem eq_IntS (x0:List Int) (hx0 : x0.length ≤ 1048576) : m_laws_eqIntS x0 x0=some true:=by
 have h:=eq_loop (m_laws_eqIntS_l1 x0 x0) x0.length hx0 (some (.inl ())) (fun fuel j hj=>by simp (disch:=omega) [m_laws_eqIntS_l1,hj,chk,gb,w64_succ,w64_id,Int.toNat_natCast,getD_ge,Bool.cond_decide,ltB,leB,ixB,nzB,nnB,sz_LineS,sz_Net,sz_BusS,sz_BoolS,sz_PermitS,sz_Work,sz_IntS,sz_World,to_Line,to_LineS,to_Net,to_Bus,to_BusS,to_BoolS,to_Permit,to_PermitS,to_Work,to_IntS,to_World,to_WorkDeed,eq_Line,eq_LineS,eq_Net,eq_Bus,eq_BusS,eq_BoolS,eq_Permit,eq_PermitS,eq_Work]) (fun fuel=>by simp [m_laws_eqIntS_l1,ltB])
 simp [m_laws_eqIntS,h]
theorem eq_World (x0:Int) (x1:List (Int×Int×Int)) (x2:List (Int×Int)) (x3:List Bool) (x4:List Bool) (x5:List (Int×Int)) (x6:List Int) (hx1 : x1.length ≤ 1048576) (hx2 : x2.length ≤ 1048576) (hx3 : x3.length ≤ 1048576) (hx4 : x4.length ≤ 1048576) (hx5 : x5.length ≤ 1048576) (hx6 : x6.length ≤ 1048576) : m_laws_eqWorld x0 x1 x2 x3 x4 x5 x6 x0 x1 x2 x3 x4 x5 x6=some true:=by
 simp (disch:=omega) [m_laws_eqWorld,chk,gb,w64_succ,w64_id,Int.toNat_natCast,getD_ge,Bool.cond_decide,ltB,leB,ixB,nzB,nnB,sz_LineS,sz_Net,sz_BusS,sz_BoolS,sz_PermitS,sz_Work,sz_IntS,sz_World,to_Line,to_LineS,to_Net,to_Bus,to_BusS,to_BoolS,to_Permit,to_PermitS,to_Work,to_IntS,to_World,to_WorkDeed,eq_Line,eq_LineS,eq_Net,eq_Bus,eq_BusS,eq_BoolS,eq_Permit,eq_PermitS,eq_Work,eq_IntS]
def mkLineS (q:Int):Int×Int×Int:=(q,(q+1),(q+2))
theorem mark_LineS (x0:List (Int×Int×Int)) (x1:Int) (hx0 : x0.length ≤ 1048576) (hk : 0 ≤ x1∧x1 ≤ 33554432) : m_laws_markLineS x0 x1=some (x1+3 * (x0.length:Int),marksG mkLineS 3 x1 x0.length):=by
 have h:=mark_loop (m_laws_markLineS_l1 x0) mkLineS 3 (by decide) x0 x1 hx0 hk (fun fuel l q j hj hl h0 h1=>by simp (disch:=omega) [m_laws_markLineS_l1,hj,hl,mkLineS,Int.add_assoc,chk,gb,w64_succ,w64_id,Int.toNat_natCast,getD_ge,Bool.cond_decide,ltB,leB,ixB,nzB,nnB]) (fun fuel l q hl=>by simp [m_laws_markLineS_l1,ltB])
 simp [m_laws_markLineS,h]
def mkBusS (q:Int):Int×Int:=(q,(q+1))
theorem mark_BusS (x0:List (Int×Int)) (x1:Int) (hx0 : x0.length ≤ 1048576) (hk : 0 ≤ x1∧x1 ≤ 33554432) : m_laws_markBusS x0 x1=some (x1+2 * (x0.length:Int),marksG mkBusS 2 x1 x0.length):=by
 have h:=mark_loop (m_laws_markBusS_l1 x0) mkBusS 2 (by decide) x0 x1 hx0 hk (fun fuel l q j hj hl h0 h1=>by simp (disch:=omega) [m_laws_markBusS_l1,hj,hl,mkBusS,Int.add_assoc,chk,gb,w64_succ,w64_id,Int.toNat_natCast,getD_ge,Bool.cond_decide,ltB,leB,ixB,nzB,nnB]) (fun fuel l q hl=>by simp [m_laws_markBusS_l1,ltB])
 simp [m_laws_markBusS,h]
def mkBoolS (q:Int):Bool:=(Int.tmod q 3 == 0)
theorem mark_BoolS (x0:List Bool) (x1:Int) (hx0 : x0.length ≤ 1048576) (hk : 0 ≤ x1∧x1 ≤ 33554432) : m_laws_markBoolS x0 x1=some (x1+1 * (x0.length:Int),marksG mkBoolS 1 x1 x0.length):=by
 have h:=mark_loop (m_laws_markBoolS_l1 x0) mkBoolS 1 (by decide) x0 x1 hx0 hk (fun fuel l q j hj hl h0 h1=>by simp (disch:=omega) [m_laws_markBoolS_l1,hj,hl,mkBoolS,Int.add_assoc,chk,gb,w64_succ,w64_id,Int.toNat_natCast,getD_ge,Bool.cond_decide,ltB,leB,ixB,nzB,nnB]) (fun fuel l q hl=>by simp [m_laws_markBoolS_l1,ltB])
 simp [m_laws_markBoolS,h]
def mkPermitS (q:Int):Int×Int:=(q,(q+1))
theorem mark_PermitS (x0:List (Int×Int)) (x1:Int) (hx0 : x0.length ≤ 1048576) (hk : 0 ≤ x1∧x1 ≤ 33554432) : m_laws_markPermitS x0 x1=some (x1+2 * (x0.length:Int),marksG mkPermitS 2 x1 x0.length):=by
 have h:=mark_loop (m_laws_markPermitS_l1 x0) mkPermitS 2 (by decide) x0 x1 hx0 hk (fun fuel l q j hj hl h0 h1=>by simp (disch:=omega) [m_laws_markPermitS_l1,hj,hl,mkPermitS,Int.add_assoc,chk,gb,w64_succ,w64_id,Int.toNat_natCast,getD_ge,Bool.cond_decide,ltB,leB,ixB,nzB,nnB]) (fun fuel l q hl=>by simp [m_laws_markPermitS_l1,ltB])
 simp [m_laws_markPermitS,h]
def mkIntS (q:Int):Int:=q
theorem mark_IntS (x0:List Int) (x1:Int) (hx0 : x0.length ≤ 1048576) (hk : 0 ≤ x1∧x1 ≤ 33554432) : m_laws_markIntS x0 x1=some (x1+1 * (x0.length:Int),marksG mkIntS 1 x1 x0.length):=by
 have h:=mark_loop (m_laws_markIntS_l1 x0) mkIntS 1 (by decide) x0 x1 hx0 hk (fun fuel l q j hj hl h0 h1=>by simp (disch:=omega) [m_laws_markIntS_l1,hj,hl,mkIntS,Int.add_assoc,chk,gb,w64_succ,w64_id,Int.toNat_natCast,getD_ge,Bool.cond_decide,ltB,leB,ixB,nzB,nnB]) (fun fuel l q hl=>by simp [m_laws_markIntS_l1,ltB])
 simp [m_laws_markIntS,h]
theorem held_LineS (n:Nat) (k:Int) (hn : n ≤ 1048576) (hk : 0 ≤ k∧k ≤ 33554432) : m_laws_heldLineS (marksG mkLineS 3 k n) k=some (k+3 * (n:Int)):=by
 have h:=held_loop (m_laws_heldLineS_l1 (marksG mkLineS 3 k n)) mkLineS 3 (by decide) n k hn hk (fun fuel q j hj hq h0 h1=>by simp (disch:=omega) [m_laws_heldLineS_l1,hj,hq,marksG_len,mkLineS,Int.add_assoc,chk,gb,w64_succ,w64_id,Int.toNat_natCast,ltB,leB,ixB]) (fun fuel q=>by simp [m_laws_heldLineS_l1,marksG_len,ltB])
 simp [m_laws_heldLineS,h]
theorem held_BusS (n:Nat) (k:Int) (hn : n ≤ 1048576) (hk : 0 ≤ k∧k ≤ 33554432) : m_laws_heldBusS (marksG mkBusS 2 k n) k=some (k+2 * (n:Int)):=by
 have h:=held_loop (m_laws_heldBusS_l1 (marksG mkBusS 2 k n)) mkBusS 2 (by decide) n k hn hk (fun fuel q j hj hq h0 h1=>by simp (disch:=omega) [m_laws_heldBusS_l1,hj,hq,marksG_len,mkBusS,Int.add_assoc,chk,gb,w64_succ,w64_id,Int.toNat_natCast,ltB,leB,ixB]) (fun fuel q=>by simp [m_laws_heldBusS_l1,marksG_len,ltB])
 simp [m_laws_heldBusS,h]
theorem held_BoolS (n:Nat) (k:Int) (hn : n ≤ 1048576) (hk : 0 ≤ k∧k ≤ 33554432) : m_laws_heldBoolS (marksG mkBoolS 1 k n) k=some (k+1 * (n:Int)):=by
 have h:=held_loop (m_laws_heldBoolS_l1 (marksG mkBoolS 1 k n)) mkBoolS 1 (by decide) n k hn hk (fun fuel q j hj hq h0 h1=>by simp (disch:=omega) [m_laws_heldBoolS_l1,hj,hq,marksG_len,mkBoolS,Int.add_assoc,chk,gb,w64_succ,w64_id,Int.toNat_natCast,ltB,leB,ixB]) (fun fuel q=>by simp [m_laws_heldBoolS_l1,marksG_len,ltB])
 simp [m_laws_heldBoolS,h]
theorem held_PermitS (n:Nat) (k:Int) (hn : n ≤ 1048576) (hk : 0 ≤ k∧k ≤ 33554432) : m_laws_heldPermitS (marksG mkPermitS 2 k n) k=some (k+2 * (n:Int)):=by
 have h:=held_loop (m_laws_heldPermitS_l1 (marksG mkPermitS 2 k n)) mkPermitS 2 (by decide) n k hn hk (fun fuel q j hj hq h0 h1=>by simp (disch:=omega) [m_laws_heldPermitS_l1,hj,hq,marksG_len,mkPermitS,Int.add_assoc,chk,gb,w64_succ,w64_id,Int.toNat_natCast,ltB,leB,ixB]) (fun fuel q=>by simp [m_laws_heldPermitS_l1,marksG_len,ltB])
 simp [m_laws_heldPermitS,h]
theorem held_IntS (n:Nat) (k:Int) (hn : n ≤ 1048576) (hk : 0 ≤ k∧k ≤ 33554432) : m_laws_heldIntS (marksG mkIntS 1 k n) k=some (k+1 * (n:Int)):=by
 have h:=held_loop (m_laws_heldIntS_l1 (marksG mkIntS 1 k n)) mkIntS 1 (by decide) n k hn hk (fun fuel q j hj hq h0 h1=>by simp (disch:=omega) [m_laws_heldIntS_l1,hj,hq,marksG_len,mkIntS,Int.add_assoc,chk,gb,w64_succ,w64_id,Int.toNat_natCast,ltB,leB,ixB]) (fun fuel q=>by simp [m_laws_heldIntS_l1,marksG_len,ltB])
 simp [m_laws_heldIntS,h]
theorem sz_WorkDeedS (x0:List (Int×Int×Int)) (x1:Int) (hx0 : x0.length ≤ 9223372036854775807) (h0 : 0 ≤ x1∧x1 ≤ 1048576) : m_laws_szWorkDeedS x0 x1=some (if x1 < (x0.length:Int) then -1 else x1 - ((x0.length:Int))):=by
 simp (disch:=omega) [m_laws_szWorkDeedS,chk,gb,w64_succ,w64_id,Int.toNat_natCast,getD_ge,Bool.cond_decide,ltB,leB,ixB,nzB,nnB,sz_LineS,sz_Net,sz_BusS,sz_BoolS,sz_PermitS,sz_Work,sz_IntS,sz_World,to_Line,to_LineS,to_Net,to_Bus,to_BusS,to_BoolS,to_Permit,to_PermitS,to_Work,to_IntS,to_World,to_WorkDeed,eq_Line,eq_LineS,eq_Net,eq_Bus,eq_BusS,eq_BoolS,eq_Permit,eq_PermitS,eq_Work,eq_IntS,eq_World,mark_LineS,m_laws_markNet,mark_BusS,mark_BoolS,mark_PermitS,m_laws_markWork,mark_IntS,m_laws_markWorld,held_LineS,m_laws_heldNet,held_BusS,held_BoolS,held_PermitS,m_laws_heldWork,held_IntS,m_laws_heldWorld]
 try (repeat' split)
 all_goals first | rfl | omega | (congr 1; omega)
theorem to_WorkDeedS (x0:List (Int×Int×Int)) (hx0 : x0.length ≤ 1048576) : m_laws_toWorkDeedS x0=some x0:=by
 have h:=to_loop (m_laws_toWorkDeedS_l1 x0) x0 (List.replicate x0.length ((0,0,0):Int×Int×Int)) (by simp) hx0 (fun fuel l j hj hl=>by simp (disch:=omega) [m_laws_toWorkDeedS_l1,hj,hl,chk,gb,w64_succ,w64_id,Int.toNat_natCast,getD_ge,Bool.cond_decide,ltB,leB,ixB,nzB,nnB,sz_LineS,sz_Net,sz_BusS,sz_BoolS,sz_PermitS,sz_Work,sz_IntS,sz_World,to_Line,to_LineS,to_Net,to_Bus,to_BusS,to_BoolS,to_Permit,to_PermitS,to_Work,to_IntS,to_World,to_WorkDeed,eq_Line,eq_LineS,eq_Net,eq_Bus,eq_BusS,eq_BoolS,eq_Permit,eq_PermitS,eq_Work,eq_IntS,eq_World,mark_LineS,m_laws_markNet,mark_BusS,mark_BoolS,mark_PermitS,m_laws_markWork,mark_IntS,m_laws_markWorld,held_LineS,m_laws_heldNet,held_BusS,held_BoolS,held_PermitS,m_laws_heldWork,held_IntS,m_laws_heldWorld,sz_WorkDeedS]) (fun fuel l hl=>by simp [m_laws_toWorkDeedS_l1,ltB])
 have hc : mkB (x0.length:Int)=true:=by simp [mkB]; omega
 simp only [m_laws_toWorkDeedS,hc,chk_true,h,Option.bind_some]
theorem eq_WorkDeed (x0:Int) (x1:Int) (x2:Int)  : m_laws_eqWorkDeed x0 x1 x2 x0 x1 x2=some true:=by
 simp (disch:=omega) [m_laws_eqWorkDeed,chk,gb,w64_succ,w64_id,Int.toNat_natCast,getD_ge,Bool.cond_decide,ltB,leB,ixB,nzB,nnB,sz_LineS,sz_Net,sz_BusS,sz_BoolS,sz_PermitS,sz_Work,sz_IntS,sz_World,to_Line,to_LineS,to_Net,to_Bus,to_BusS,to_BoolS,to_Permit,to_PermitS,to_Work,to_IntS,to_World,to_WorkDeed,eq_Line,eq_LineS,eq_Net,eq_Bus,eq_BusS,eq_BoolS,eq_Permit,eq_PermitS,eq_Work,eq_IntS,eq_World,mark_LineS,m_laws_markNet,mark_BusS,mark_BoolS,mark_PermitS,m_laws_markWork,mark_IntS,m_laws_markWorld,held_LineS,m_laws_heldNet,held_BusS,held_BoolS,held_PermitS,m_laws_heldWork,held_IntS,m_laws_heldWorld,sz_WorkDeedS,to_WorkDeedS]
theorem eq_WorkDeedS (x0:List (Int×Int×Int)) (hx0 : x0.length ≤ 1048576) : m_laws_eqWorkDeedS x0 x0=some true:=by
 have h:=eq_loop (m_laws_eqWorkDeedS_l1 x0 x0) x0.length hx0 (some (.inl ())) (fun fuel j hj=>by simp (disch:=omega) [m_laws_eqWorkDeedS_l1,hj,chk,gb,w64_succ,w64_id,Int.toNat_natCast,getD_ge,Bool.cond_decide,ltB,leB,ixB,nzB,nnB,sz_LineS,sz_Net,sz_BusS,sz_BoolS,sz_PermitS,sz_Work,sz_IntS,sz_World,to_Line,to_LineS,to_Net,to_Bus,to_BusS,to_BoolS,to_Permit,to_PermitS,to_Work,to_IntS,to_World,to_WorkDeed,eq_Line,eq_LineS,eq_Net,eq_Bus,eq_BusS,eq_BoolS,eq_Permit,eq_PermitS,eq_Work,eq_IntS,eq_World,mark_LineS,m_laws_markNet,mark_BusS,mark_BoolS,mark_PermitS,m_laws_markWork,mark_IntS,m_laws_markWorld,held_LineS,m_laws_heldNet,held_BusS,held_BoolS,held_PermitS,m_laws_heldWork,held_IntS,m_laws_heldWorld,sz_WorkDeedS,to_WorkDeedS,eq_WorkDeed]) (fun fuel=>by simp [m_laws_eqWorkDeedS_l1,ltB])
 simp [m_laws_eqWorkDeedS,h]
def mkWorkDeedS (q:Int):Int×Int×Int:=(q,(q+1),(q+2))
theorem mark_WorkDeedS (x0:List (Int×Int×Int)) (x1:Int) (hx0 : x0.length ≤ 1048576) (hk : 0 ≤ x1∧x1 ≤ 33554432) : m_laws_markWorkDeedS x0 x1=some (x1+3 * (x0.length:Int),marksG mkWorkDeedS 3 x1 x0.length):=by
 have h:=mark_loop (m_laws_markWorkDeedS_l1 x0) mkWorkDeedS 3 (by decide) x0 x1 hx0 hk (fun fuel l q j hj hl h0 h1=>by simp (disch:=omega) [m_laws_markWorkDeedS_l1,hj,hl,mkWorkDeedS,Int.add_assoc,chk,gb,w64_succ,w64_id,Int.toNat_natCast,getD_ge,Bool.cond_decide,ltB,leB,ixB,nzB,nnB]) (fun fuel l q hl=>by simp [m_laws_markWorkDeedS_l1,ltB])
 simp [m_laws_markWorkDeedS,h]
end Go.Proofs.YtcmnjaccapbhfaaGreat
