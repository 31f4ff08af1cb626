/- Closed facts on types. -/
import Derived.Test.YtcmnjaccapbhfaaGreatQDaM
namespace Go.Proofs.YtcmnjaccapbhfaaGreat
open Go.ChangeShapes Go.WideShapes Go.ChangeAt Go.RowKit
set_option linter.unusedVariables false
set_option linter.unusedSimpArgs false
theorem ag110:TyAgg Tryz.prog 110 2:=⟨.inl ⟨_,Tryz.underlying110⟩,by kernel_rfl⟩
theorem ag112:TyAgg Tryz.prog 112 2:=⟨.inl ⟨_,Tryz.underlying112⟩,by kernel_rfl⟩
theorem ag130:TyAgg Tryz.prog 130 3:=⟨.inl ⟨_,Tryz.underlying130⟩,by kernel_rfl⟩
theorem ag141:TyAgg Tryz.prog 141 3:=⟨.inl ⟨_,Tryz.underlying141⟩,by kernel_rfl⟩
theorem ag143:TyAgg Tryz.prog 143 2:=⟨.inl ⟨_,Tryz.underlying143⟩,by kernel_rfl⟩
theorem ag145:TyAgg Tryz.prog 145 5:=⟨.inl ⟨_,Tryz.underlying145⟩,by kernel_rfl⟩
theorem ag24:TyAgg Tryz.prog 24 2:=⟨.inl ⟨_,Tryz.underlying24⟩,by kernel_rfl⟩
theorem ag29:TyAgg Tryz.prog 29 3:=⟨.inl ⟨_,Tryz.underlying29⟩,by kernel_rfl⟩
theorem ag32:TyAgg Tryz.prog 32 7:=⟨.inl ⟨_,Tryz.underlying32⟩,by kernel_rfl⟩
theorem ag37:TyAgg Tryz.prog 37 2:=⟨.inl ⟨_,Tryz.underlying37⟩,by kernel_rfl⟩
theorem ag41:TyAgg Tryz.prog 41 3:=⟨.inl ⟨_,Tryz.underlying41⟩,by kernel_rfl⟩
theorem ag43:TyAgg Tryz.prog 43 7:=⟨.inl ⟨_,Tryz.underlying43⟩,by kernel_rfl⟩
theorem ag53:TyAgg Tryz.prog 53 3:=⟨.inl ⟨_,Tryz.underlying53⟩,by kernel_rfl⟩
theorem ag56:TyAgg Tryz.prog 56 3:=⟨.inl ⟨_,Tryz.underlying56⟩,by kernel_rfl⟩
theorem ag78:TyAgg Tryz.prog 78 2:=⟨.inl ⟨_,Tryz.underlying78⟩,by kernel_rfl⟩
theorem bd145_0x2_1_2 {y0_0 y0_1 x1 x2:Value} {w:World} (h1 : x1.cells=#[x1]) (h2 : x2.cells=#[x2]):(Instr.build 145 [(0,.agg #[y0_0,y0_1]),(1,x1),(2,x2)].toArray).run Tryz.prog w=.ok (.agg #[y0_0,y0_1,x1,x2,.slice none 0 0]) w:=by unfold Value.cells at h1 h2; simp [go_sem,h1,h2]
theorem bd145 {w:World} :(Instr.build 145 [].toArray).run Tryz.prog w=.ok (.agg #[.int .i64 0,.slice none 0 0,.slice none 0 0,.slice none 0 0,.slice none 0 0]) w:=by simp [go_sem]
theorem bd37_0_1 {x0 x1:Value} {w:World} (h0 : x0.cells=#[x0]) (h1 : x1.cells=#[x1]):(Instr.build 37 [(0,x0),(1,x1)].toArray).run Tryz.prog w=.ok (.agg #[x0,x1]) w:=by unfold Value.cells at h0 h1; simp [go_sem,h0,h1]
theorem bd41_0_1_2 {x0 x1 x2:Value} {w:World} (h0 : x0.cells=#[x0]) (h1 : x1.cells=#[x1]) (h2 : x2.cells=#[x2]):(Instr.build 41 [(0,x0),(1,x1),(2,x2)].toArray).run Tryz.prog w=.ok (.agg #[x0,x1,x2]) w:=by unfold Value.cells at h0 h1 h2; simp [go_sem,h0,h1,h2]
theorem bd41 {w:World} :(Instr.build 41 [].toArray).run Tryz.prog w=.ok (.agg #[.slice none 0 0,.slice none 0 0,.slice none 0 0]) w:=by simp [go_sem]
theorem bd43_0x2_1_2x3_3 {y0_0 y0_1 x1 y2_0 y2_1 y2_2 x3:Value} {w:World} (h1 : x1.cells=#[x1]) (h3 : x3.cells=#[x3]):(Instr.build 43 [(0,.agg #[y0_0,y0_1]),(1,x1),(2,.agg #[y2_0,y2_1,y2_2]),(3,x3)].toArray).run Tryz.prog w=.ok (.agg #[y0_0,y0_1,x1,y2_0,y2_1,y2_2,x3]) w:=by unfold Value.cells at h1 h3; simp [go_sem,h1,h3]
theorem bd43 {w:World} :(Instr.build 43 [].toArray).run Tryz.prog w=.ok (.agg #[.int .i64 0,.slice none 0 0,.slice none 0 0,.slice none 0 0,.slice none 0 0,.slice none 0 0,.slice none 0 0]) w:=by simp [go_sem]
theorem bd78_0_1 {x0 x1:Value} {w:World} (h0 : x0.cells=#[x0]) (h1 : x1.cells=#[x1]):(Instr.build 78 [(0,x0),(1,x1)].toArray).run Tryz.prog w=.ok (.agg #[x0,x1]) w:=by unfold Value.cells at h0 h1; simp [go_sem,h0,h1]
theorem co100:CallOk Tryz.prog 100:=⟨by kernel_rfl⟩
theorem co101:CallOk Tryz.prog 101:=⟨by kernel_rfl⟩
theorem co102:CallOk Tryz.prog 102:=⟨by kernel_rfl⟩
theorem co103:CallOk Tryz.prog 103:=⟨by kernel_rfl⟩
theorem co104:CallOk Tryz.prog 104:=⟨by kernel_rfl⟩
theorem co105:CallOk Tryz.prog 105:=⟨by kernel_rfl⟩
theorem co106:CallOk Tryz.prog 106:=⟨by kernel_rfl⟩
theorem co107:CallOk Tryz.prog 107:=⟨by kernel_rfl⟩
theorem co108:CallOk Tryz.prog 108:=⟨by kernel_rfl⟩
theorem co109:CallOk Tryz.prog 109:=⟨by kernel_rfl⟩
theorem co11:CallOk Tryz.prog 11:=⟨by kernel_rfl⟩
theorem co110:CallOk Tryz.prog 110:=⟨by kernel_rfl⟩
theorem co111:CallOk Tryz.prog 111:=⟨by kernel_rfl⟩
theorem co112:CallOk Tryz.prog 112:=⟨by kernel_rfl⟩
theorem co113:CallOk Tryz.prog 113:=⟨by kernel_rfl⟩
theorem co119:CallOk Tryz.prog 119:=⟨by kernel_rfl⟩
theorem co124:CallOk Tryz.prog 124:=⟨by kernel_rfl⟩
theorem co125:CallOk Tryz.prog 125:=⟨by kernel_rfl⟩
theorem co126:CallOk Tryz.prog 126:=⟨by kernel_rfl⟩
theorem co127:CallOk Tryz.prog 127:=⟨by kernel_rfl⟩
theorem co128:CallOk Tryz.prog 128:=⟨by kernel_rfl⟩
theorem co129:CallOk Tryz.prog 129:=⟨by kernel_rfl⟩
theorem co130:CallOk Tryz.prog 130:=⟨by kernel_rfl⟩
theorem co133:CallOk Tryz.prog 133:=⟨by kernel_rfl⟩
theorem co134:CallOk Tryz.prog 134:=⟨by kernel_rfl⟩
theorem co135:CallOk Tryz.prog 135:=⟨by kernel_rfl⟩
theorem co136:CallOk Tryz.prog 136:=⟨by kernel_rfl⟩
theorem co137:CallOk Tryz.prog 137:=⟨by kernel_rfl⟩
theorem co138:CallOk Tryz.prog 138:=⟨by kernel_rfl⟩
theorem co142:CallOk Tryz.prog 142:=⟨by kernel_rfl⟩
theorem co145:CallOk Tryz.prog 145:=⟨by kernel_rfl⟩
theorem co146:CallOk Tryz.prog 146:=⟨by kernel_rfl⟩
theorem co147:CallOk Tryz.prog 147:=⟨by kernel_rfl⟩
theorem co149:CallOk Tryz.prog 149:=⟨by kernel_rfl⟩
theorem co15:CallOk Tryz.prog 15:=⟨by kernel_rfl⟩
theorem co150:CallOk Tryz.prog 150:=⟨by kernel_rfl⟩
theorem co151:CallOk Tryz.prog 151:=⟨by kernel_rfl⟩
theorem co152:CallOk Tryz.prog 152:=⟨by kernel_rfl⟩
theorem co153:CallOk Tryz.prog 153:=⟨by kernel_rfl⟩
theorem co156:CallOk Tryz.prog 156:=⟨by kernel_rfl⟩
theorem co18:CallOk Tryz.prog 18:=⟨by kernel_rfl⟩
theorem co19:CallOk Tryz.prog 19:=⟨by kernel_rfl⟩
theorem co20:CallOk Tryz.prog 20:=⟨by kernel_rfl⟩
theorem co21:CallOk Tryz.prog 21:=⟨by kernel_rfl⟩
theorem co26:CallOk Tryz.prog 26:=⟨by kernel_rfl⟩
theorem co27:CallOk Tryz.prog 27:=⟨by kernel_rfl⟩
theorem co28:CallOk Tryz.prog 28:=⟨by kernel_rfl⟩
theorem co29:CallOk Tryz.prog 29:=⟨by kernel_rfl⟩
theorem co30:CallOk Tryz.prog 30:=⟨by kernel_rfl⟩
theorem co31:CallOk Tryz.prog 31:=⟨by kernel_rfl⟩
theorem co32:CallOk Tryz.prog 32:=⟨by kernel_rfl⟩
theorem co33:CallOk Tryz.prog 33:=⟨by kernel_rfl⟩
theorem co34:CallOk Tryz.prog 34:=⟨by kernel_rfl⟩
theorem co35:CallOk Tryz.prog 35:=⟨by kernel_rfl⟩
theorem co36:CallOk Tryz.prog 36:=⟨by kernel_rfl⟩
theorem co37:CallOk Tryz.prog 37:=⟨by kernel_rfl⟩
theorem co38:CallOk Tryz.prog 38:=⟨by kernel_rfl⟩
theorem co39:CallOk Tryz.prog 39:=⟨by kernel_rfl⟩
theorem co40:CallOk Tryz.prog 40:=⟨by kernel_rfl⟩
theorem co43:CallOk Tryz.prog 43:=⟨by kernel_rfl⟩
theorem co47:CallOk Tryz.prog 47:=⟨by kernel_rfl⟩
theorem co48:CallOk Tryz.prog 48:=⟨by kernel_rfl⟩
theorem co49:CallOk Tryz.prog 49:=⟨by kernel_rfl⟩
theorem co50:CallOk Tryz.prog 50:=⟨by kernel_rfl⟩
theorem co51:CallOk Tryz.prog 51:=⟨by kernel_rfl⟩
theorem co52:CallOk Tryz.prog 52:=⟨by kernel_rfl⟩
theorem co53:CallOk Tryz.prog 53:=⟨by kernel_rfl⟩
theorem co54:CallOk Tryz.prog 54:=⟨by kernel_rfl⟩
theorem co55:CallOk Tryz.prog 55:=⟨by kernel_rfl⟩
theorem co56:CallOk Tryz.prog 56:=⟨by kernel_rfl⟩
theorem co57:CallOk Tryz.prog 57:=⟨by kernel_rfl⟩
theorem co58:CallOk Tryz.prog 58:=⟨by kernel_rfl⟩
theorem co59:CallOk Tryz.prog 59:=⟨by kernel_rfl⟩
theorem co60:CallOk Tryz.prog 60:=⟨by kernel_rfl⟩
theorem co61:CallOk Tryz.prog 61:=⟨by kernel_rfl⟩
theorem co62:CallOk Tryz.prog 62:=⟨by kernel_rfl⟩
theorem co63:CallOk Tryz.prog 63:=⟨by kernel_rfl⟩
theorem co64:CallOk Tryz.prog 64:=⟨by kernel_rfl⟩
theorem co65:CallOk Tryz.prog 65:=⟨by kernel_rfl⟩
theorem co66:CallOk Tryz.prog 66:=⟨by kernel_rfl⟩
theorem co67:CallOk Tryz.prog 67:=⟨by kernel_rfl⟩
theorem co68:CallOk Tryz.prog 68:=⟨by kernel_rfl⟩
theorem co69:CallOk Tryz.prog 69:=⟨by kernel_rfl⟩
theorem co7:CallOk Tryz.prog 7:=⟨by kernel_rfl⟩
theorem co70:CallOk Tryz.prog 70:=⟨by kernel_rfl⟩
theorem co71:CallOk Tryz.prog 71:=⟨by kernel_rfl⟩
theorem co72:CallOk Tryz.prog 72:=⟨by kernel_rfl⟩
theorem co73:CallOk Tryz.prog 73:=⟨by kernel_rfl⟩
theorem co74:CallOk Tryz.prog 74:=⟨by kernel_rfl⟩
theorem co75:CallOk Tryz.prog 75:=⟨by kernel_rfl⟩
theorem co76:CallOk Tryz.prog 76:=⟨by kernel_rfl⟩
theorem co77:CallOk Tryz.prog 77:=⟨by kernel_rfl⟩
theorem co78:CallOk Tryz.prog 78:=⟨by kernel_rfl⟩
theorem co79:CallOk Tryz.prog 79:=⟨by kernel_rfl⟩
theorem co80:CallOk Tryz.prog 80:=⟨by kernel_rfl⟩
theorem co85:CallOk Tryz.prog 85:=⟨by kernel_rfl⟩
theorem co86:CallOk Tryz.prog 86:=⟨by kernel_rfl⟩
theorem co87:CallOk Tryz.prog 87:=⟨by kernel_rfl⟩
theorem co88:CallOk Tryz.prog 88:=⟨by kernel_rfl⟩
theorem co89:CallOk Tryz.prog 89:=⟨by kernel_rfl⟩
theorem co9:CallOk Tryz.prog 9:=⟨by kernel_rfl⟩
theorem co90:CallOk Tryz.prog 90:=⟨by kernel_rfl⟩
theorem co91:CallOk Tryz.prog 91:=⟨by kernel_rfl⟩
theorem co92:CallOk Tryz.prog 92:=⟨by kernel_rfl⟩
theorem co93:CallOk Tryz.prog 93:=⟨by kernel_rfl⟩
theorem co94:CallOk Tryz.prog 94:=⟨by kernel_rfl⟩
theorem co95:CallOk Tryz.prog 95:=⟨by kernel_rfl⟩
theorem co96:CallOk Tryz.prog 96:=⟨by kernel_rfl⟩
theorem co97:CallOk Tryz.prog 97:=⟨by kernel_rfl⟩
theorem co98:CallOk Tryz.prog 98:=⟨by kernel_rfl⟩
theorem co99:CallOk Tryz.prog 99:=⟨by kernel_rfl⟩
theorem fl110_0:TyFld Tryz.prog 110 0 0:=⟨by kernel_rfl⟩
theorem fl110_1:TyFld Tryz.prog 110 1 1:=⟨by kernel_rfl⟩
theorem fl112_0:TyFld Tryz.prog 112 0 0:=⟨by kernel_rfl⟩
theorem fl112_1:TyFld Tryz.prog 112 1 1:=⟨by kernel_rfl⟩
theorem fl130_0:TyFld Tryz.prog 130 0 0:=⟨by kernel_rfl⟩
theorem fl130_1:TyFld Tryz.prog 130 1 1:=⟨by kernel_rfl⟩
theorem fl130_2:TyFld Tryz.prog 130 2 2:=⟨by kernel_rfl⟩
theorem fl141_0:TyFld Tryz.prog 141 0 0:=⟨by kernel_rfl⟩
theorem fl141_1:TyFld Tryz.prog 141 1 1:=⟨by kernel_rfl⟩
theorem fl141_2:TyFld Tryz.prog 141 2 2:=⟨by kernel_rfl⟩
theorem fl143_0:TyFld Tryz.prog 143 0 0:=⟨by kernel_rfl⟩
theorem fl143_1:TyFld Tryz.prog 143 1 1:=⟨by kernel_rfl⟩
theorem fl145_0:TyFld Tryz.prog 145 0 0:=⟨by kernel_rfl⟩
theorem fl145_1:TyFld Tryz.prog 145 1 2:=⟨by kernel_rfl⟩
theorem fl145_2:TyFld Tryz.prog 145 2 3:=⟨by kernel_rfl⟩
theorem fl145_3:TyFld Tryz.prog 145 3 4:=⟨by kernel_rfl⟩
theorem fl24_0:TyFld Tryz.prog 24 0 0:=⟨by kernel_rfl⟩
theorem fl24_1:TyFld Tryz.prog 24 1 1:=⟨by kernel_rfl⟩
theorem fl29_0:TyFld Tryz.prog 29 0 0:=⟨by kernel_rfl⟩
theorem fl29_1:TyFld Tryz.prog 29 1 1:=⟨by kernel_rfl⟩
theorem fl29_2:TyFld Tryz.prog 29 2 2:=⟨by kernel_rfl⟩
theorem fl32_0:TyFld Tryz.prog 32 0 0:=⟨by kernel_rfl⟩
theorem fl32_1:TyFld Tryz.prog 32 1 2:=⟨by kernel_rfl⟩
theorem fl32_2:TyFld Tryz.prog 32 2 3:=⟨by kernel_rfl⟩
theorem fl32_3:TyFld Tryz.prog 32 3 6:=⟨by kernel_rfl⟩
theorem fl37_0:TyFld Tryz.prog 37 0 0:=⟨by kernel_rfl⟩
theorem fl37_1:TyFld Tryz.prog 37 1 1:=⟨by kernel_rfl⟩
theorem fl41_0:TyFld Tryz.prog 41 0 0:=⟨by kernel_rfl⟩
theorem fl41_1:TyFld Tryz.prog 41 1 1:=⟨by kernel_rfl⟩
theorem fl41_2:TyFld Tryz.prog 41 2 2:=⟨by kernel_rfl⟩
theorem fl43_0:TyFld Tryz.prog 43 0 0:=⟨by kernel_rfl⟩
theorem fl43_1:TyFld Tryz.prog 43 1 2:=⟨by kernel_rfl⟩
theorem fl43_2:TyFld Tryz.prog 43 2 3:=⟨by kernel_rfl⟩
theorem fl43_3:TyFld Tryz.prog 43 3 6:=⟨by kernel_rfl⟩
theorem fl53_0:TyFld Tryz.prog 53 0 0:=⟨by kernel_rfl⟩
theorem fl53_1:TyFld Tryz.prog 53 1 1:=⟨by kernel_rfl⟩
theorem fl53_2:TyFld Tryz.prog 53 2 2:=⟨by kernel_rfl⟩
theorem fl56_0:TyFld Tryz.prog 56 0 0:=⟨by kernel_rfl⟩
theorem fl56_1:TyFld Tryz.prog 56 1 1:=⟨by kernel_rfl⟩
theorem fl56_2:TyFld Tryz.prog 56 2 2:=⟨by kernel_rfl⟩
theorem fl78_0:TyFld Tryz.prog 78 0 0:=⟨by kernel_rfl⟩
theorem fl78_1:TyFld Tryz.prog 78 1 1:=⟨by kernel_rfl⟩
theorem inf110:(Tryz.prog.info? 110).map (fun i=>(i.zero,i.size,i.bytes))=some (some (.agg #[.int .i64 0,.int .i64 0]),2,16):=by kernel_rfl
theorem inf130:(Tryz.prog.info? 130).map (fun i=>(i.zero,i.size,i.bytes))=some (some (.agg #[.int .i64 0,.int .i64 0,.int .i64 0]),3,24):=by kernel_rfl
theorem inf3:(Tryz.prog.info? 3).map (fun i=>(i.zero,i.size,i.bytes))=some (some (.int .i64 0),1,8):=by kernel_rfl
theorem inf4:(Tryz.prog.info? 4).map (fun i=>(i.zero,i.size,i.bytes))=some (some (.bool false),1,1):=by kernel_rfl
theorem inf78:(Tryz.prog.info? 78).map (fun i=>(i.zero,i.size,i.bytes))=some (some (.agg #[.int .i64 0,.int .i64 0]),2,16):=by kernel_rfl
theorem one22:TyOne Tryz.prog 22:=⟨by kernel_rfl,by kernel_rfl⟩
theorem one25:TyOne Tryz.prog 25:=⟨by kernel_rfl,by kernel_rfl⟩
theorem one26:TyOne Tryz.prog 26:=⟨by kernel_rfl,by kernel_rfl⟩
theorem one27:TyOne Tryz.prog 27:=⟨by kernel_rfl,by kernel_rfl⟩
theorem one3:TyOne Tryz.prog 3:=⟨by kernel_rfl,by kernel_rfl⟩
theorem one30:TyOne Tryz.prog 30:=⟨by kernel_rfl,by kernel_rfl⟩
theorem one35:TyOne Tryz.prog 35:=⟨by kernel_rfl,by kernel_rfl⟩
theorem one38:TyOne Tryz.prog 38:=⟨by kernel_rfl,by kernel_rfl⟩
theorem one39:TyOne Tryz.prog 39:=⟨by kernel_rfl,by kernel_rfl⟩
theorem one4:TyOne Tryz.prog 4:=⟨by kernel_rfl,by kernel_rfl⟩
theorem sz110:(Tryz.prog.info? 110).map (·.size)=some 2:=by kernel_rfl
theorem sz112:(Tryz.prog.info? 112).map (·.size)=some 2:=by kernel_rfl
theorem sz130:(Tryz.prog.info? 130).map (·.size)=some 3:=by kernel_rfl
theorem sz141:(Tryz.prog.info? 141).map (·.size)=some 3:=by kernel_rfl
theorem sz143:(Tryz.prog.info? 143).map (·.size)=some 2:=by kernel_rfl
theorem sz145:(Tryz.prog.info? 145).map (·.size)=some 5:=by kernel_rfl
theorem sz26:(Tryz.prog.info? 26).map (·.size)=some 1:=by kernel_rfl
theorem sz3:(Tryz.prog.info? 3).map (·.size)=some 1:=by kernel_rfl
theorem sz30:(Tryz.prog.info? 30).map (·.size)=some 1:=by kernel_rfl
theorem sz35:(Tryz.prog.info? 35).map (·.size)=some 1:=by kernel_rfl
theorem sz37:(Tryz.prog.info? 37).map (·.size)=some 2:=by kernel_rfl
theorem sz38:(Tryz.prog.info? 38).map (·.size)=some 1:=by kernel_rfl
theorem sz39:(Tryz.prog.info? 39).map (·.size)=some 1:=by kernel_rfl
theorem sz4:(Tryz.prog.info? 4).map (·.size)=some 1:=by kernel_rfl
theorem sz41:(Tryz.prog.info? 41).map (·.size)=some 3:=by kernel_rfl
theorem sz43:(Tryz.prog.info? 43).map (·.size)=some 7:=by kernel_rfl
theorem sz56:(Tryz.prog.info? 56).map (·.size)=some 3:=by kernel_rfl
theorem sz78:(Tryz.prog.info? 78).map (·.size)=some 2:=by kernel_rfl
theorem zr110:(Tryz.prog.info? 110).bind (·.zero)=some (.agg #[.int .i64 0,.int .i64 0]):=by kernel_rfl
theorem zr130:(Tryz.prog.info? 130).bind (·.zero)=some (.agg #[.int .i64 0,.int .i64 0,.int .i64 0]):=by kernel_rfl
theorem zr145:(Tryz.prog.info? 145).bind (·.zero)=some (.agg #[.int .i64 0,.slice none 0 0,.slice none 0 0,.slice none 0 0,.slice none 0 0]):=by kernel_rfl
theorem zr37:(Tryz.prog.info? 37).bind (·.zero)=some (.agg #[.int .i64 0,.slice none 0 0]):=by kernel_rfl
theorem zr41:(Tryz.prog.info? 41).bind (·.zero)=some (.agg #[.slice none 0 0,.slice none 0 0,.slice none 0 0]):=by kernel_rfl
theorem zr43:(Tryz.prog.info? 43).bind (·.zero)=some (.agg #[.int .i64 0,.slice none 0 0,.slice none 0 0,.slice none 0 0,.slice none 0 0,.slice none 0 0,.slice none 0 0]):=by kernel_rfl
theorem zr56:(Tryz.prog.info? 56).bind (·.zero)=some (.agg #[.int .i64 0,.int .i64 0,.int .i64 0]):=by kernel_rfl
theorem zr78:(Tryz.prog.info? 78).bind (·.zero)=some (.agg #[.int .i64 0,.int .i64 0]):=by kernel_rfl
theorem bs30_1_0 {x0:Value} {w:World} (h0 : x0.cells=#[x0]):(Instr.buildSlice 30 1 [(0,x0)].toArray).run Tryz.prog w=.ok (.slice (some ⟨w.heap.size,0,none⟩) 1 1) (w.alloc (.cells #[x0] 3)):=by unfold Value.cells at h0; simp [Instr.buildSlice,Instr.fill,newRow,Array.range_succ,go_sem,h0]
theorem bs39_1_2 {y0_0 y0_1:Value} {w:World} :(Instr.buildSlice 39 1 [(0,.agg #[y0_0,y0_1])].toArray).run Tryz.prog w=.ok (.slice (some ⟨w.heap.size,0,none⟩) 1 1) (w.alloc (.cells #[y0_0,y0_1] 78)):=by simp [Instr.buildSlice,Instr.fill,newRow,Array.range_succ,go_sem]
theorem eg78:Tryz.prog.eqGuardType Tryz.prog.depth 78=false:=by kernel_rfl
theorem eq78 {a0 b0:Int} {a1 b1:Int} {w:World}:(Op.equalIn 10000 78 (.agg #[.int .i64 a0,.int .i64 a1]) (.agg #[.int .i64 b0,.int .i64 b1])).run Tryz.prog w=.ok ((a0 == b0) && (a1 == b1)) w:=by
 simp [go_sem]
 (repeat' split) <;> simp_all
end Go.Proofs.YtcmnjaccapbhfaaGreat
