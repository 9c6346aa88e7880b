/- The texts RxFmt RxPu RxC. -/
import Derived.Test.YtinallojhkaogaaGreatDoorHk06
set_option linter.unusedVariables false
set_option linter.unusedSimpArgs false
set_option maxHeartbeats 3200000
set_option maxRecDepth 100000
namespace Go.Proofs.YtinallojhkaogaaGreatDoor.Rx
open Go.RowKit Go.Shelf
open St (Tab tz_any)
abbrev Y (n:Nat):Value:=.int .u8 (n:Int)
theorem zero_65:(∀ w,(zeroValue 254).run Tryz.prog w = .ok (.agg (Array.replicate 65 (Y 0))) w) /\ (Tryz.prog.info? 254).map (·.size) = some 65 :=
 zero_of_info (P:=Tryz.prog) (t:=254) (v:=.agg (Array.replicate 65 (Y 0))) (n:=65) (by kernel_rfl)
theorem hex_at:∀ j:Nat,j < 16 -> ∀ h,((⟨#[48,49,50,51,52,53,54,55,56,57,97,98,99,100,101,102,103,104,105,106,107,108,109,110,111,112,113,114,115,116,117,118,119,120,121,122]⟩:ByteArray)[j]'h) = hexd j:=by decide
theorem conv_at (row:Array Value) (o:Nat) (l:List UInt8) (hl:∀ j (hj:j < l.length),row[o + j]? = some (.int .u8 (l[j].toNat:Int))) (w:World) (n c:Nat) (hn:n = l.length) :
  (convert 96 9 (.slice (some ⟨w.heap.size,o,none⟩) n c)).run Tryz.prog (w.alloc (.cells row 254)) = .ok (S l) (w.alloc (.cells row 254)):=by
 subst hn;exact run_convert_bytes_back (P:=Tryz.prog) _ 96 9 5 ⟨w.heap.size,o,none⟩ c l Tryz.underlying96 Tryz.underlying5 Tryz.underlying9 (by
  intro j hj;rw [Addr.add_lit,Lib.cell_of_heap (heap_alloc_new w _)];exact hl j hj)
theorem tz16 (w:World) (hT:Tab w):Calls Tryz.prog 150 #[.int .u64 16] w fun e w'=>e = .returned (.int .i64 4) /\ w = w':=by
 have h:=tz_any 16 (by decide) (by decide) w hT;refine h.mono ?_;rintro e w' ⟨rfl,rfl⟩;exact ⟨by rw [show Lib.ctz 64 16 = 4 from by decide];rfl,rfl⟩
theorem fmtBits16 (u:Nat) (hu:u < 16) (w:World) (hT:Tab w) (hg:2 < w.heap.size) :
  Calls Tryz.prog 142 #[.slice none 0 0,.int .u64 u,E 16,.bool false,.bool false] w fun e w'=>e = .returned (.tuple #[.slice none 0 0,S [hexd u]]) /\ Below w.heap.size w w':=by
 have hz:=zero_65.1;have hsz:=zero_65.2;have HT:=Lib.hid (hT.below ((Below.refl w.heap.size w).alloc (Nat.le_refl _) (.cells (Array.replicate 65 (Y 0)) 254)) hg);(have hp2:(bits BinOp.and IntKind.i64 16 15 == 0) = true:=by decide);have hd1:=hex_at u hu;have hcv:=conv_at ((Array.replicate 65 (Y 0)).setIfInBounds 64 (.int .u8 ((hexd u).toNat:Int))) 64 [hexd u] (by
  intro j hj;(obtain rfl:j = 0:=by simpa using hj);rw [Array.getElem?_setIfInBounds_self_of_lt (by simp)];rfl) w 1 1 rfl
 go_enter Tryz.func142,Tryz.ntmps142;go_wp2_with (first | (go_at_call 150;refine (tz16 _ HT.out).mono ?_;rintro e w' ⟨rfl,rfl⟩) | go_in)
 go_rounds 1
 go_ret2
 exact ⟨rfl,(Below.refl w.heap.size w).alloc (Nat.le_refl _) _⟩
theorem ifmt16 (u:Nat) (hu:u < 16) (w:World) (hT:Tab w) (hg:2 < w.heap.size) :
  Calls Tryz.prog 122 #[.int .u64 u,E 16] w fun e w'=>e = .returned (S [hexd u]) /\ Below w.heap.size w w':=by
 have HC:=Lib.hid (fmtBits16 u hu w hT hg);clear hT hg;go_enter Tryz.func122,Tryz.ntmps122;go_wp2_with (go_at_call 142;refine HC.out.mono ?_;rintro e w1 ⟨rfl,hb⟩;have HB:=Lib.hid hb;clear hb);go_ret;exact ⟨rfl,HB.out⟩
theorem fmt16 (u:Nat) (hu:u < 16) (w:World) (hT:Tab w) (hg:2 < w.heap.size) :
  Calls Tryz.prog 93 #[.int .u64 u,E 16] w fun e w'=>e = .returned (S [hexd u]) /\ Below w.heap.size w w':=by
 have HC:=Lib.hid (ifmt16 u hu w hT hg);clear hT hg;go_enter Tryz.func93,Tryz.ntmps93;go_wp2_with (go_at_call 122;refine HC.out.mono ?_;rintro e w1 ⟨rfl,hb⟩;have HB:=Lib.hid hb;clear hb);go_ret;exact ⟨rfl,HB.out⟩
abbrev SE (n:Int):Value:=.iface 257 (.int .i64 n)
theorem bytes_cell (w:World) (t:List UInt8) (cap:Nat) (fz:Nat × Nat) (j:Nat) (hj:j < t.length) :
  (w.alloc (.cells (bytesRow ⟨t.toArray⟩ cap) 5 fz)).cell? ⟨w.heap.size,j,none⟩ = some (.int .u8 (t[j].toNat:Int)):=by
 rw [Lib.cell_of_heap (heap_alloc_new w _)];unfold bytesRow;rw [Array.getElem?_append_left (by simpa using hj)];simp [List.getElem?_eq_getElem hj]
def hexN (c:Nat):Option Nat:=if 48 <= c /\ c <= 57 then some (c - 48) else if 97 <= c /\ c <= 102 then some (c - 87) else if 65 <= c /\ c <= 70 then some (c - 55) else none
def hexL (acc:Nat):List UInt8 -> Option Nat
 | []=>some acc
 | c :: r=>match hexV c with
  | some v=>hexL (acc * 16 + v) r
  | none=>none
theorem hex_drop {t:List UInt8} {k:Nat} (h:k < t.length) (acc:Nat):hexL acc (t.drop k) = match hexN t[k].toNat with
  | some v=>hexL (acc * 16 + v) (t.drop (k + 1))
  | none=>none:=by
 rw [List.drop_eq_getElem_cons h];rfl
theorem low_letter:∀ c:Nat,c < 256 -> 0 <= bits .or .u8 (c:Int) 32 /\ bits .or .u8 (c:Int) 32 <= 255:=by decide +kernel
theorem low_hex:∀ c:Nat,c < 256 -> ¬ (48 <= c /\ c <= 57) -> (97 <= (bits .or .u8 (c:Int) 32).toNat /\ (bits .or .u8 (c:Int) 32).toNat <= 102 -> hexN c = some ((bits .or .u8 (c:Int) 32).toNat - 97 + 10)) /\ (¬ (97 <= (bits .or .u8 (c:Int) 32).toNat /\ (bits .or .u8 (c:Int) 32).toNat <= 102) -> hexN c = none):=by decide +kernel
def Par (t:List UInt8) (e:Ending):Prop :=
 (∃ x:Nat,hexL 0 t = some x /\ e = .returned (.tuple #[.int .u64 x,.nilIface])) \/ (hexL 0 t = none /\ e = .returned (.tuple #[.int .u64 0,SE 2]))
theorem parse16_any (t:List UInt8) (h1:1 <= t.length) (h2:t.length <= 2) (w:World) :
  Calls Tryz.prog 144 #[S t,E 16,E 8] w fun e w' =>
   Par t e /\ Below w.heap.size w w':=by
 (have hne:(t == []) = false:=by cases t with | nil=>simp at h1 | cons=>rfl);have hcv:=run_bytes_of_string (P:=Tryz.prog) w 9 96 5 ⟨t.toArray⟩ Tryz.underlying9 Tryz.underlying96 Tryz.underlying5;(have hsz:(ByteArray.mk t.toArray).size = t.length:=by simp [ByteArray.size]);rw [hsz] at hcv;generalize grownCap w t.length 0 5 = gc at hcv;have HC:=Lib.hid (bytes_cell w t gc ((bytesRow ⟨t.toArray⟩ gc).size,(bytesRow ⟨t.toArray⟩ gc).size + 1));have HB:=Lib.hid ((Below.refl w.heap.size w).alloc (Nat.le_refl _) (.cells (bytesRow ⟨t.toArray⟩ gc) 5 ((bytesRow ⟨t.toArray⟩ gc).size,(bytesRow ⟨t.toArray⟩ gc).size + 1))).drew;generalize Obj.cells (bytesRow ⟨t.toArray⟩ gc) 5 ((bytesRow ⟨t.toArray⟩ gc).size,(bytesRow ⟨t.toArray⟩ gc).size + 1) = ob at *;go_enter Tryz.func144,Tryz.ntmps144;go_wp2
 go_loop [12,13,101] (fun un n i=>∃ k acc:Nat,k <= t.length /\ un = .bool false /\ i = .int .i64 (k:Nat) /\ n = .int .u64 (acc:Nat) /\ Hid (k = 0 /\ acc = 0 \/ k = 1 /\ acc <= 15 \/ k = 2 /\ acc <= 255) /\ Hid (hexL 0 t = hexL acc (t.drop k))) (fun _ _ i=>t.length - (intOf i).toNat)
 (case atStart=>exact ⟨0,0,Nat.zero_le _,rfl,rfl,rfl,Lib.hid (Or.inl ⟨rfl,rfl⟩),Lib.hid (by simp)⟩);case round =>
  obtain ⟨k,acc,hk,rfl,rfl,rfl,HACC,HR⟩:=hrel;by_cases hlt:k < t.length
  ·
   (have hacc:acc <= 15:=by rcases HACC.out with ⟨_,h⟩ | ⟨_,h⟩ | ⟨h,_⟩ <;> omega);have hcell:=HC.out k hlt;have OD:=Lib.hid (hex_drop hlt acc);have hcb:=UInt8.toNat_lt t[k];clear HC;generalize t[k].toNat = c at *;have HL:=Lib.hid (low_letter c hcb);(have hcut:¬ (1152921504606846976:Int) <= ((acc:Nat):Int):=by omega);by_cases hd:48 <= c /\ c <= 57
   ·
    (have d1:(48:Int) <= c:=by omega);(have d2:(c:Int) <= 57:=by omega);(have d3:((c:Int) - 48) = ((c - 48:Nat):Int):=by omega);(have d4:¬ (16:Int) <= ((c - 48:Nat):Int):=by omega);have HO:=Lib.hid (show hexL 0 t = hexL (acc * 16 + (c - 48)) (t.drop (k + 1)) from by rw [HR.out,OD.out,show hexN c = some (c - 48) from if_pos hd]);(have s1:((acc:Nat):Int) * 16 + ((c - 48:Nat):Int) <= 255:=by omega);(have hd9:c - 48 <= 15:=by omega);generalize c - 48 = d at *;clear hd OD HR;go_wp2
    go_round
    (case rel=>exact ⟨k + 1,acc * 16 + d,by omega,rfl,by go_num,by go_num,Lib.hid (by rcases HACC.out with ⟨h,h'⟩ | ⟨h,h'⟩ | ⟨h,h'⟩ <;> omega),HO⟩);case measure=>simp [intOf];omega
   ·
    have HLX:=Lib.hid (low_hex c hcb hd);obtain ⟨l,hl⟩:∃ l:Nat,bits .or .u8 (c:Int) 32 = (l:Int):=⟨(bits .or .u8 (c:Int) 32).toNat,by have:=HL.out;omega⟩;(have hl255:l <= 255:=by have:=HL.out.2;omega);have HLX2:Hid ((97 <= l /\ l <= 102 -> hexN c = some (l - 97 + 10)) /\ (¬ (97 <= l /\ l <= 102) -> hexN c = none)):=Lib.hid (by have:=HLX.out;rw [hl] at this;exact this);have HLOW:=Lib.hid (show ∀ w,Calls Tryz.prog 167 #[.int .u8 (c:Int)] w fun e w'=>e = .returned (Y l) /\ w' = w from fun w=>by
     have:=Tryz.internal_strconv_lower (c:Int) w;rw [hl] at this;exact this)
    clear hl HL HLX;cases e95:(((c:Nat):Int) == 95)
    ·
     by_cases d48:48 <= c
     ·
      (have d1:(48:Int) <= c:=by omega);(have d2:¬ (c:Int) <= 57:=by omega);clear hd;by_cases l97:97 <= l
      ·
       (have l1:(97:Int) <= l:=by omega);by_cases l102:l <= 102
       ·
        have HO:=Lib.hid (show hexL 0 t = hexL (acc * 16 + (l - 97 + 10)) (t.drop (k + 1)) from by rw [HR.out,OD.out,HLX2.out.1 ⟨l97,l102⟩]);(have l2:(l:Int) <= 122:=by omega);(have l4:¬ (16:Int) <= (l:Int) - 97 + 10:=by omega);(have s1:((acc:Nat):Int) * 16 + ((l:Int) - 97 + 10) <= 255:=by omega);have hcutB:decide ((1152921504606846976:Int) <= ((acc:Nat):Int)) = false:=decide_eq_false hcut;have HD15:=Lib.hid (show l - 97 + 10 <= 15 by omega);have HL97:=Lib.hid (And.intro l97 hacc);clear OD HR HLX2 l97 l102 hcut;go_wp2_with (go_at_call 167;refine (HLOW.out _).mono ?_;rintro e w' ⟨rfl,rfl⟩;(try clear hcell);(try clear d1);(try clear d2);(try clear e95);(try clear hcb);(try clear hl255);(try clear hcv);(try clear hacc);(try clear hd9))
        go_round
        (case rel=>exact ⟨k + 1,acc * 16 + (l - 97 + 10),by omega,rfl,by go_num,congrArg (Value.int .u64) (by have:=HL97.out;omega),Lib.hid (by have h5:=HD15.out;have h6:=HL97.out;rcases HACC.out with ⟨h,h'⟩ | ⟨h,h'⟩ | ⟨h,h'⟩ <;> omega),HO⟩);case measure=>simp [intOf];omega
       ·
        have HO:=Lib.hid (show hexL 0 t = none from by rw [HR.out,OD.out,HLX2.out.2 (fun q=>l102 q.2)]);clear OD HR HLX2;by_cases l122:l <= 122
        ·
         (have l2:(l:Int) <= 122:=by omega);(have l4:(16:Int) <= (l:Int) - 97 + 10:=by omega);go_wp2_with (go_at_call 167;refine (HLOW.out _).mono ?_;rintro e w' ⟨rfl,rfl⟩;(try clear hcell);(try clear d1);(try clear d2);(try clear e95);(try clear hcb);(try clear hcut);(try clear hacc);(try clear hk);(try clear hl255);(try clear hcv))
         go_ret2
         exact ⟨Or.inr ⟨HO.out,rfl⟩,HB.out⟩
        ·
         (have l2:¬ (l:Int) <= 122:=by omega);go_wp2_with (go_at_call 167;refine (HLOW.out _).mono ?_;rintro e w' ⟨rfl,rfl⟩;(try clear hcell);(try clear d1);(try clear d2);(try clear e95);(try clear hcb);(try clear hcut);(try clear hacc);(try clear hk);(try clear hl255);(try clear hcv))
         go_ret2
         exact ⟨Or.inr ⟨HO.out,rfl⟩,HB.out⟩
      ·
       (have l1:¬ (97:Int) <= l:=by omega);have HO:=Lib.hid (show hexL 0 t = none from by rw [HR.out,OD.out,HLX2.out.2 (fun q=>l97 q.1)]);clear OD HR HLX2;go_wp2_with (go_at_call 167;refine (HLOW.out _).mono ?_;rintro e w' ⟨rfl,rfl⟩;(try clear hcell);(try clear d1);(try clear d2);(try clear e95);(try clear hcb);(try clear hcut);(try clear hacc);(try clear hk);(try clear hl255);(try clear hcv))
       go_ret2
       exact ⟨Or.inr ⟨HO.out,rfl⟩,HB.out⟩
     ·
      (have d1:¬ (48:Int) <= c:=by omega);clear hd;by_cases l97:97 <= l
      ·
       (have l1:(97:Int) <= l:=by omega);by_cases l102:l <= 102
       ·
        have HO:=Lib.hid (show hexL 0 t = hexL (acc * 16 + (l - 97 + 10)) (t.drop (k + 1)) from by rw [HR.out,OD.out,HLX2.out.1 ⟨l97,l102⟩]);(have l2:(l:Int) <= 122:=by omega);(have l4:¬ (16:Int) <= (l:Int) - 97 + 10:=by omega);(have s1:((acc:Nat):Int) * 16 + ((l:Int) - 97 + 10) <= 255:=by omega);have hcutB:decide ((1152921504606846976:Int) <= ((acc:Nat):Int)) = false:=decide_eq_false hcut;have HD15:=Lib.hid (show l - 97 + 10 <= 15 by omega);have HL97:=Lib.hid (And.intro l97 hacc);clear OD HR HLX2 l97 l102 hcut;go_wp2_with (go_at_call 167;refine (HLOW.out _).mono ?_;rintro e w' ⟨rfl,rfl⟩;(try clear hcell);(try clear d1);(try clear d2);(try clear e95);(try clear hcb);(try clear hl255);(try clear hcv);(try clear hacc);(try clear hd9))
        go_round
        (case rel=>exact ⟨k + 1,acc * 16 + (l - 97 + 10),by omega,rfl,by go_num,congrArg (Value.int .u64) (by have:=HL97.out;omega),Lib.hid (by have h5:=HD15.out;have h6:=HL97.out;rcases HACC.out with ⟨h,h'⟩ | ⟨h,h'⟩ | ⟨h,h'⟩ <;> omega),HO⟩);case measure=>simp [intOf];omega
       ·
        have HO:=Lib.hid (show hexL 0 t = none from by rw [HR.out,OD.out,HLX2.out.2 (fun q=>l102 q.2)]);clear OD HR HLX2;by_cases l122:l <= 122
        ·
         (have l2:(l:Int) <= 122:=by omega);(have l4:(16:Int) <= (l:Int) - 97 + 10:=by omega);go_wp2_with (go_at_call 167;refine (HLOW.out _).mono ?_;rintro e w' ⟨rfl,rfl⟩;(try clear hcell);(try clear d1);(try clear d2);(try clear e95);(try clear hcb);(try clear hcut);(try clear hacc);(try clear hk);(try clear hl255);(try clear hcv))
         go_ret2
         exact ⟨Or.inr ⟨HO.out,rfl⟩,HB.out⟩
        ·
         (have l2:¬ (l:Int) <= 122:=by omega);go_wp2_with (go_at_call 167;refine (HLOW.out _).mono ?_;rintro e w' ⟨rfl,rfl⟩;(try clear hcell);(try clear d1);(try clear d2);(try clear e95);(try clear hcb);(try clear hcut);(try clear hacc);(try clear hk);(try clear hl255);(try clear hcv))
         go_ret2
         exact ⟨Or.inr ⟨HO.out,rfl⟩,HB.out⟩
      ·
       (have l1:¬ (97:Int) <= l:=by omega);have HO:=Lib.hid (show hexL 0 t = none from by rw [HR.out,OD.out,HLX2.out.2 (fun q=>l97 q.1)]);clear OD HR HLX2;go_wp2_with (go_at_call 167;refine (HLOW.out _).mono ?_;rintro e w' ⟨rfl,rfl⟩;(try clear hcell);(try clear d1);(try clear d2);(try clear e95);(try clear hcb);(try clear hcut);(try clear hacc);(try clear hk);(try clear hl255);(try clear hcv))
       go_ret2
       exact ⟨Or.inr ⟨HO.out,rfl⟩,HB.out⟩
    ·
     by_cases d48:48 <= c
     ·
      (have d1:(48:Int) <= c:=by omega);(have d2:¬ (c:Int) <= 57:=by omega);clear hd;by_cases l97:97 <= l
      ·
       (have l1:(97:Int) <= l:=by omega);by_cases l102:l <= 102
       ·
        have HO:=Lib.hid (show hexL 0 t = hexL (acc * 16 + (l - 97 + 10)) (t.drop (k + 1)) from by rw [HR.out,OD.out,HLX2.out.1 ⟨l97,l102⟩]);(have l2:(l:Int) <= 122:=by omega);(have l4:¬ (16:Int) <= (l:Int) - 97 + 10:=by omega);(have s1:((acc:Nat):Int) * 16 + ((l:Int) - 97 + 10) <= 255:=by omega);have hcutB:decide ((1152921504606846976:Int) <= ((acc:Nat):Int)) = false:=decide_eq_false hcut;have HD15:=Lib.hid (show l - 97 + 10 <= 15 by omega);have HL97:=Lib.hid (And.intro l97 hacc);clear OD HR HLX2 l97 l102 hcut;go_wp2_with (go_at_call 167;refine (HLOW.out _).mono ?_;rintro e w' ⟨rfl,rfl⟩;(try clear hcell);(try clear d1);(try clear d2);(try clear e95);(try clear hcb);(try clear hl255);(try clear hcv);(try clear hacc);(try clear hd9))
        go_round
        (case rel=>exact ⟨k + 1,acc * 16 + (l - 97 + 10),by omega,rfl,by go_num,congrArg (Value.int .u64) (by have:=HL97.out;omega),Lib.hid (by have h5:=HD15.out;have h6:=HL97.out;rcases HACC.out with ⟨h,h'⟩ | ⟨h,h'⟩ | ⟨h,h'⟩ <;> omega),HO⟩);case measure=>simp [intOf];omega
       ·
        have HO:=Lib.hid (show hexL 0 t = none from by rw [HR.out,OD.out,HLX2.out.2 (fun q=>l102 q.2)]);clear OD HR HLX2;by_cases l122:l <= 122
        ·
         (have l2:(l:Int) <= 122:=by omega);(have l4:(16:Int) <= (l:Int) - 97 + 10:=by omega);go_wp2_with (go_at_call 167;refine (HLOW.out _).mono ?_;rintro e w' ⟨rfl,rfl⟩;(try clear hcell);(try clear d1);(try clear d2);(try clear e95);(try clear hcb);(try clear hcut);(try clear hacc);(try clear hk);(try clear hl255);(try clear hcv))
         go_ret2
         exact ⟨Or.inr ⟨HO.out,rfl⟩,HB.out⟩
        ·
         (have l2:¬ (l:Int) <= 122:=by omega);go_wp2_with (go_at_call 167;refine (HLOW.out _).mono ?_;rintro e w' ⟨rfl,rfl⟩;(try clear hcell);(try clear d1);(try clear d2);(try clear e95);(try clear hcb);(try clear hcut);(try clear hacc);(try clear hk);(try clear hl255);(try clear hcv))
         go_ret2
         exact ⟨Or.inr ⟨HO.out,rfl⟩,HB.out⟩
      ·
       (have l1:¬ (97:Int) <= l:=by omega);have HO:=Lib.hid (show hexL 0 t = none from by rw [HR.out,OD.out,HLX2.out.2 (fun q=>l97 q.1)]);clear OD HR HLX2;go_wp2_with (go_at_call 167;refine (HLOW.out _).mono ?_;rintro e w' ⟨rfl,rfl⟩;(try clear hcell);(try clear d1);(try clear d2);(try clear e95);(try clear hcb);(try clear hcut);(try clear hacc);(try clear hk);(try clear hl255);(try clear hcv))
       go_ret2
       exact ⟨Or.inr ⟨HO.out,rfl⟩,HB.out⟩
     ·
      (have d1:¬ (48:Int) <= c:=by omega);clear hd;by_cases l97:97 <= l
      ·
       (have l1:(97:Int) <= l:=by omega);by_cases l102:l <= 102
       ·
        have HO:=Lib.hid (show hexL 0 t = hexL (acc * 16 + (l - 97 + 10)) (t.drop (k + 1)) from by rw [HR.out,OD.out,HLX2.out.1 ⟨l97,l102⟩]);(have l2:(l:Int) <= 122:=by omega);(have l4:¬ (16:Int) <= (l:Int) - 97 + 10:=by omega);(have s1:((acc:Nat):Int) * 16 + ((l:Int) - 97 + 10) <= 255:=by omega);have hcutB:decide ((1152921504606846976:Int) <= ((acc:Nat):Int)) = false:=decide_eq_false hcut;have HD15:=Lib.hid (show l - 97 + 10 <= 15 by omega);have HL97:=Lib.hid (And.intro l97 hacc);clear OD HR HLX2 l97 l102 hcut;go_wp2_with (go_at_call 167;refine (HLOW.out _).mono ?_;rintro e w' ⟨rfl,rfl⟩;(try clear hcell);(try clear d1);(try clear d2);(try clear e95);(try clear hcb);(try clear hl255);(try clear hcv);(try clear hacc);(try clear hd9))
        go_round
        (case rel=>exact ⟨k + 1,acc * 16 + (l - 97 + 10),by omega,rfl,by go_num,congrArg (Value.int .u64) (by have:=HL97.out;omega),Lib.hid (by have h5:=HD15.out;have h6:=HL97.out;rcases HACC.out with ⟨h,h'⟩ | ⟨h,h'⟩ | ⟨h,h'⟩ <;> omega),HO⟩);case measure=>simp [intOf];omega
       ·
        have HO:=Lib.hid (show hexL 0 t = none from by rw [HR.out,OD.out,HLX2.out.2 (fun q=>l102 q.2)]);clear OD HR HLX2;by_cases l122:l <= 122
        ·
         (have l2:(l:Int) <= 122:=by omega);(have l4:(16:Int) <= (l:Int) - 97 + 10:=by omega);go_wp2_with (go_at_call 167;refine (HLOW.out _).mono ?_;rintro e w' ⟨rfl,rfl⟩;(try clear hcell);(try clear d1);(try clear d2);(try clear e95);(try clear hcb);(try clear hcut);(try clear hacc);(try clear hk);(try clear hl255);(try clear hcv))
         go_ret2
         exact ⟨Or.inr ⟨HO.out,rfl⟩,HB.out⟩
        ·
         (have l2:¬ (l:Int) <= 122:=by omega);go_wp2_with (go_at_call 167;refine (HLOW.out _).mono ?_;rintro e w' ⟨rfl,rfl⟩;(try clear hcell);(try clear d1);(try clear d2);(try clear e95);(try clear hcb);(try clear hcut);(try clear hacc);(try clear hk);(try clear hl255);(try clear hcv))
         go_ret2
         exact ⟨Or.inr ⟨HO.out,rfl⟩,HB.out⟩
      ·
       (have l1:¬ (97:Int) <= l:=by omega);have HO:=Lib.hid (show hexL 0 t = none from by rw [HR.out,OD.out,HLX2.out.2 (fun q=>l97 q.1)]);clear OD HR HLX2;go_wp2_with (go_at_call 167;refine (HLOW.out _).mono ?_;rintro e w' ⟨rfl,rfl⟩;(try clear hcell);(try clear d1);(try clear d2);(try clear e95);(try clear hcb);(try clear hcut);(try clear hacc);(try clear hk);(try clear hl255);(try clear hcv))
       go_ret2
       exact ⟨Or.inr ⟨HO.out,rfl⟩,HB.out⟩
  ·
   (obtain rfl:k = t.length:=by omega);have HO:=Lib.hid (show hexL 0 t = some acc from by rw [HR.out,List.drop_of_length_le (by omega)];rfl);clear HR HC;go_wp2
   go_ret2
   exact ⟨Or.inl ⟨acc,HO.out,rfl⟩,HB.out⟩
structure Errs (w:World):Prop where
 syn:∃ ev,w.cell? ⟨3,0,none⟩ = some ev /\ (ev = .nilIface \/ ∃ te pe,ev = .iface te pe)
 rng:∃ ev,w.cell? ⟨4,0,none⟩ = some ev /\ (ev = .nilIface \/ ∃ te pe,ev = .iface te pe)
 l1:3 < w.heap.size
 l2:4 < w.heap.size
theorem Errs.below {w w':World} (h:Errs w) (hb:Below w.heap.size w w'):Errs w' where
 syn:=by obtain ⟨ev,h1,h2⟩:=h.syn;exact ⟨ev,(hb.cell (p:=⟨3,0,none⟩) h.l1).trans h1,h2⟩
 rng:=by obtain ⟨ev,h1,h2⟩:=h.rng;exact ⟨ev,(hb.cell (p:=⟨4,0,none⟩) h.l2).trans h1,h2⟩
 l1:=Nat.lt_of_lt_of_le h.l1 hb.size
 l2:=Nat.lt_of_lt_of_le h.l2 hb.size
def Pub (t:List UInt8) (e:Ending):Prop :=
 (∃ x:Nat,hexL 0 t = some x /\ e = .returned (.tuple #[.int .u64 x,.nilIface])) \/ (hexL 0 t = none /\ ∃ (te:TypeId) (pe:Value),e = .returned (.tuple #[.int .u64 0,.iface te pe]))
theorem pub16_any (t:List UInt8) (h1:1 <= t.length) (h3:t.length <= 2) (w:World) (hE:Errs w) :
  Calls Tryz.prog 113 #[S t,E 16,E 8] w fun e w'=>Pub t e /\ Below w.heap.size w w':=by
 have HP:=Lib.hid (parse16_any t h1 h3 w);have HE:=Lib.hid hE;clear hE;(have hsz:(ByteArray.mk t.toArray).size <= 281474976710656:=by simp [ByteArray.size];omega);have HSZ:=Lib.hid hsz;clear hsz;go_enter Tryz.func113,Tryz.ntmps113;go_wp2_with (go_at_call 144;refine HP.out.mono ?_);rintro e w1 ⟨hp | ⟨ho,he⟩,hb⟩
 ·
  obtain ⟨x,ho,rfl⟩:=hp;(have HO:Hid (∀ e:Ending,e = .returned (.tuple #[.int .u64 x,.nilIface]) -> Pub t e):=Lib.hid fun e he=>Or.inl ⟨x,ho,he⟩);have HB:=Lib.hid hb;clear ho hb;go_wp2
  go_ret2
  exact ⟨HO.out _ rfl,HB.out⟩
 ·
  subst he;(have HO:Hid (∀ (e:Ending) (te:TypeId) (pe:Value),e = .returned (.tuple #[.int .u64 0,.iface te pe]) -> Pub t e):=Lib.hid fun e te pe he=>Or.inr ⟨ho,te,pe,he⟩);have HB:=Lib.hid hb;have HE1:=HE.out.below hb;obtain ⟨es,s1,s2⟩:=HE1.syn;clear ho hb HE1;have HT:=Lib.hid (Tryz.strconv_toError_syntax ⟨#[80,97,114,115,101,85,105,110,116]⟩ ⟨t.toArray⟩ 16 8 es w1 HSZ.out s1 s2);clear s1 s2;go_wp2_with (go_at_call 145;refine HT.out.mono ?_;rintro e w2 ⟨N,rfl,_,_,hb2⟩;have HB2:=Lib.hid (HB.out.trans (hb2.mono HB.out.size));clear hb2)
  go_ret2
  exact ⟨HO.out _ _ _ rfl,HB2.out⟩
theorem hexL_pair (c d:UInt8):(∃ x y,hexV c = some x /\ hexV d = some y /\ hexL 0 [c,d] = some (x * 16 + y) /\ pairV c d = (x * 16 + y,true)) \/ (hexL 0 [c,d] = none /\ pairV c d = (0,false)):=by
 unfold pairV;cases h1:hexV c with
 | none=>right;exact ⟨by unfold hexL;rw [h1],rfl⟩
 | some x =>
  cases h2:hexV d with
  | none=>right;exact ⟨by unfold hexL;rw [h1];show hexL _ [d] = none;unfold hexL;rw [h2],rfl⟩
  | some y=>left;exact ⟨x,y,rfl,rfl,by unfold hexL;rw [h1];show hexL _ [d] = _;unfold hexL;rw [h2];show some _ = some _;congr 1;omega,rfl⟩
open Ad (cutB cutB_at atoiV dec_len)
open St (Tab)
theorem ibyte (c:UInt8):∀ l:List UInt8,(Lib.indexByte l c = -1 /\ cutB c l = (l,[],false)) \/ (∃ k:Nat,k < l.length /\ Lib.indexByte l c = (k:Int) /\ cutB c l = (l.take k,l.drop (k + 1),true))
 | []=>by left;exact ⟨rfl,rfl⟩
 | b :: r=>by
  unfold Lib.indexByte cutB;by_cases h:b = c
  · right;subst h;exact ⟨0,by simp,by simp,by simp⟩
  ·
   (have hB:(b == c) = false:=by rw [beq_eq_false_iff_ne];exact h);rw [hB,if_neg h];rcases ibyte c r with ⟨h1,h2⟩ | ⟨k,h0,h1,h2⟩
   · left;rw [h1,h2];exact ⟨rfl,rfl⟩
   ·
    right;refine ⟨k + 1,by simp;omega,?_,?_⟩
    · rw [h1];(have hn:((k:Int) == -1) = false:=by rw [beq_eq_false_iff_ne];omega);rw [hn];simp
    · rw [h2];simp
theorem ex_take {l:List UInt8} (k:Nat):(⟨l.toArray⟩:ByteArray).extract 0 k = ⟨(l.take k).toArray⟩:=by
 rw [Go.Lib.extract_eq];simp
theorem ex_drop {l:List UInt8} (k:Nat):(⟨l.toArray⟩:ByteArray).extract k l.length = ⟨(l.drop k).toArray⟩:=by
 rw [Go.Lib.extract_eq];simp only;rw [List.take_of_length_le (by simp)]
abbrev CutR (c:UInt8) (l:List UInt8):Ending:=.returned (.tuple #[S (cutB c l).1,S (cutB c l).2.1,.bool (cutB c l).2.2])
theorem scut_any (l:List UInt8) (c:UInt8) (w:World) (hl:l.length <= 100000) :
  Calls Tryz.prog 166 #[S l,S [c]] w fun e w'=>e = CutR c l /\ Below w.heap.size w w':=by
 (have hsz:(ByteArray.mk l.toArray).size = l.length:=by simp [ByteArray.size]);(have hs1:(ByteArray.mk #[c]).size = 1:=by rfl);have HI:Hid (∀ w,Calls Tryz.prog 187 #[S l,.string ⟨#[c]⟩] w fun e w'=>e = .returned (E (Lib.indexByte l c)) /\ w' = w):=Lib.hid (fun w=>by
  have h:=Tryz.stringslite_Index_one ⟨l.toArray⟩ c w;simpa using h)
 rcases ibyte c l with ⟨h1,h2⟩ | ⟨k,h0,h1,h2⟩
 ·
  have HO:=Lib.hid h2;clear h2;rw [h1] at HI;go_enter Tryz.func166,Tryz.ntmps166;go_wp2_with (go_at_call 187;refine (HI.out _).mono ?_;rintro e w' ⟨rfl,rfl⟩)
  go_ret3
  exact ⟨by unfold CutR;rw [HO.out];rfl,Below.refl _ _⟩
 ·
  have HO:=Lib.hid h2;clear h2;rw [h1] at HI;have e1:=ex_take (l:=l) k;have e2:=ex_drop (l:=l) (k + 1);(have hk:((k:Nat):Int) <= ((l.length:Nat):Int):=by omega);(have hk1:((k:Nat):Int) + 1 <= ((l.length:Nat):Int):=by omega);(have hk2:(((k:Nat):Int) + 1).toNat = k + 1:=by omega);go_enter Tryz.func166,Tryz.ntmps166;go_wp2_with (go_at_call 187;refine (HI.out _).mono ?_;rintro e w' ⟨rfl,rfl⟩);go_region;go_wp2
  go_ret3
  exact ⟨by unfold CutR;rw [HO.out];rfl,(Below.refl _ _).drew⟩
theorem cut_any (l:List UInt8) (c:UInt8) (w:World) (hl:l.length <= 100000) :
  Calls Tryz.prog 143 #[S l,S [c]] w fun e w'=>e = CutR c l /\ Below w.heap.size w w':=by
 have HC:=Lib.hid (fun w=>scut_any l c w hl);unfold CutR at *;go_enter Tryz.func143,Tryz.ntmps143;go_wp2_with (go_at_call 166;refine (HC.out _).mono ?_;rintro e w' ⟨rfl,hb⟩;have HB:=Lib.hid hb;clear hb)
 go_ret3
 exact ⟨rfl,HB.out⟩
structure Lay (w:World):Prop where
 tab:Tab w
 tl:2 < w.heap.size
 pow:Go.Lib.TabIs Tryz.prog w "internal/strconv.uint64pow10" .u64 Go.Lib.pow10Tab
 err:Errs w
theorem gPow:Tryz.prog.globalNamed "internal/strconv.uint64pow10" = some 1:=by kernel_rfl
theorem Lay.below {w w':World} (h:Lay w) (hb:Below w.heap.size w w'):Lay w' :=
 ⟨h.tab.below hb h.tl,Nat.lt_of_lt_of_le h.tl hb.size,Go.Joins.tab_stays gPow h.pow hb (Nat.le_refl _),h.err.below hb⟩
theorem below_grow (w:World) (os:Array Obj):Below w.heap.size w (Go.Sort.grow w os):=⟨rfl,rfl,rfl,by simp,fun k hk=>Go.Sort.heap_grow_old w os hk⟩
theorem itoa_any (n:Int) (h0:-1 <= n) (h1:n <= 999999999) (w:World) (hL:Lay w) :
  Calls Tryz.prog 64 #[E n] w fun e w'=>e = .returned (S (Lib.itoa n)) /\ Below w.heap.size w w':=by
 refine (Tryz.strconv_Itoa n (by omega) (by omega) w hL.pow).mono ?_;rintro e w' ⟨rfl,k,os,rfl⟩;exact ⟨rfl,(Go.Joins.below_draws w.heap.size w k).trans (below_grow (w.drewN k) os)⟩
def ErrIs (ok:Bool) (ev:Value):Prop:=if ok = true then ev = .nilIface else ∃ (te:TypeId) (pe:Value),ev = .iface te pe
theorem atoi_any (l:List UInt8) (w:World) (hL:Lay w) (hl:l.length <= 100000) :
  Calls Tryz.prog 116 #[S l] w fun e w'=>∃ ev,ErrIs (atoiK l) ev /\ e = .returned (.tuple #[E (atoiV l),ev]) /\ Below w.heap.size w w':=by
 (have hsz:(ByteArray.mk l.toArray).size = l.length:=by simp [ByteArray.size]);(have hd:(ByteArray.mk l.toArray).data.toList = l:=by simp);unfold atoiV atoiK;rcases h:Lib.atoiAll l with v | _ | _
 ·
  refine (Tryz.strconv_Atoi_ok ⟨l.toArray⟩ (by rw [hsz];omega) v (by rw [hd];exact h) w).mono ?_;rintro e w' ⟨rfl,rfl | ⟨t,rfl⟩⟩
  · exact ⟨_,rfl,rfl,Below.refl _ _⟩
  · exact ⟨_,rfl,rfl,Go.Joins.below_bytesWorld _ _ _ _ (Nat.le_refl _)⟩
 · obtain ⟨ev,hv,hev⟩:=hL.err.syn;refine (Tryz.strconv_Atoi_syntax ⟨l.toArray⟩ (by rw [hsz];omega) (by rw [hd];exact h) ev w hv hev).mono ?_;rintro e w' ⟨N,rfl,_,_,hb⟩;exact ⟨_,⟨_,_,rfl⟩,rfl,hb⟩
 · obtain ⟨ev,hv,hev⟩:=hL.err.rng;refine (Tryz.strconv_Atoi_range ⟨l.toArray⟩ (by rw [hsz];omega) (by rw [hd];exact h) ev w hv hev).mono ?_;rintro e w' ⟨N,rfl,_,_,hb⟩;exact ⟨_,⟨_,_,rfl⟩,by rw [hd],hb⟩
end Go.Proofs.YtinallojhkaogaaGreatDoor.Rx
