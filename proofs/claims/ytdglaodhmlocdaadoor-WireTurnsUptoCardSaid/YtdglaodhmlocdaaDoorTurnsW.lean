/- WireTurns (written by wip/tools) -/
import Derived.Test.YtdglaodhmlocdaaDoorTurns
import Derived.Test.YtdglaodhmlocdaaDoorCurs
set_option linter.unusedVariables false
set_option linter.unusedSimpArgs false
set_option maxRecDepth 10000
namespace Go.Proofs.YtdglaodhmlocdaaDoor
open Go Go.RowKit
theorem ag62 : aggB Tryd.prog 62 = some false := by kernel_rfl
theorem ag64 : aggB Tryd.prog 64 = some true := by kernel_rfl
theorem el3 : ElemOk Tryd.prog 3 1 8 [.int .i64 0] := ⟨by kernel_rfl, by kernel_rfl, by kernel_rfl, rfl, by decide⟩
theorem en30 : entersB Tryd.prog 30 = true := by kernel_rfl
theorem en31 : entersB Tryd.prog 31 = true := by kernel_rfl
theorem en33 : entersB Tryd.prog 33 = true := by kernel_rfl
theorem en34 : entersB Tryd.prog 34 = true := by kernel_rfl
theorem en36 : entersB Tryd.prog 36 = true := by kernel_rfl
theorem en38 : entersB Tryd.prog 38 = true := by kernel_rfl
theorem fo64_0 : fOff Tryd.prog 64 0 = some 0 := by kernel_rfl
theorem fo64_1 : fOff Tryd.prog 64 1 = some 1 := by kernel_rfl
theorem fo64_3 : fOff Tryd.prog 64 3 = some 3 := by kernel_rfl
theorem sz62 : sizeB Tryd.prog 62 = some 1 := by kernel_rfl
theorem sz64 : sizeB Tryd.prog 64 = some 4 := by kernel_rfl
theorem ze3 : zeroB Tryd.prog 3 = some [.int .i64 0] := by kernel_rfl

theorem unhex_len (l : List UInt8) : (unhexM l).1.length ≤ l.length := by
  unfold unhexM
  split
  · exact Nat.zero_le _
  split
  · exact Nat.zero_le _
  · rw [pairsM_len (l.length / 2) _ (by omega)]; omega
theorem turn_last (s : ByteArray) : (!decide ((unhexM s.data.toList).2 = .nil) || decide (strB (hexM (unhexM s.data.toList).1) = s)) = true := by
  by_cases he : (unhexM s.data.toList).2 = .nil
  · have hx := unhex_back (l := s.data.toList) (c := (unhexM s.data.toList).1) (by rw [← he])
    simp [hx, strB_toList]
  · simp [he]
set_option maxHeartbeats 3000000 in
theorem wireTurns_w {w : World} {A : Nat → Addr} {vr vB : Value} {AT : Option Addr} {nT cT : Nat} {xs : List RecM} {bs : List UInt8} {s : ByteArray} (hG : EV A w) (hH : HE w) (h : SlR w 2 (Flat eRec) vr xs) (hr : RecsIn w xs) (hB : SlR w 1 (Flat eB) vB bs) (hz : xs.length ≤ 1048576) (hb : ∀ r ∈ xs, r.body.length ≤ 1048576) (hbk : bulkR xs ≤ 16777216) (hbs : bs.length ≤ 1048576) (hs : s.size ≤ 1048576) :
    Calls Tryd.prog 8 [.agg #[vr, vB, .slice AT nT cT, .string s]].toArray w (Ret fun r w' => r = .bool true ∧ Ext w w') := by
  have hS := St.begin NB w
  obtain ⟨A0, c0, rfl, hl0, hm0, hn0⟩ := h.form
  obtain ⟨AB, cB, rfl, hlB, hmB, hnB⟩ := hB.form
  refine enter Tryd.func8 rfl rfl rfl ?_
  intro a H
  dsimp only [enumL, Nat.zero_add, Nat.reduceAdd] at H
  refine wp_seq ?_
  refine wp_region_lit ?_
  refine n_box H rfl (cs := [.slice A0 xs.length c0, .slice AB bs.length cB, .slice AT nT cT, .string s]) rfl rfl ?_
  clear H; intro b1 w1 hN hE2 hs_b1; clear a; intro a H
  replace hS := hS.newBlk hN hE2 hs_b1; clear hN hE2
  refine n_q H (q_assign rfl) rfl ?_
  clear H a; intro a H
  refine n_nil ?_
  refine then_normal ?_
  refine wp_seq ?_
  refine wp_seq ?_
  refine wp_region_lit ?_
  refine n_call H rfl en11 (fixed_w (hG.ext hS.x) (hH.ext hS.x)) rfl ?_
  clear H a; intro v5 w3 hv a H
  obtain ⟨rfl, hE4⟩ := hv
  replace hS := hS.ext hE4
  refine n_q H (q_not rfl) rfl ?_
  clear H a; intro a H
  refine n_nil ?_
  refine then_normal ?_
  refine c_cond H rfl (fun hc17 => ?_) (fun hc17 => ?_)
  · skip
    cases hc17
  · skip
    refine wp_skip ?_
    refine then_normal ?_
    refine wp_seq ?_
    refine wp_region_lit ?_
    refine n_q H (q_fieldAddr0 rfl fo64_0) rfl ?_
    clear H a; intro a H
    refine n_q H (q_load rfl ((hS.blk 0 rfl).ld ag61 rfl)) rfl ?_
    clear H a; intro a H
    refine n_call H rfl en31 (recs_w (h.ext (Flat.mono _) hS.x) (hr.ext hS.x) hz hb) rfl ?_
    clear H a; intro v21 w6 hv a H
    obtain ⟨ys, n21, hn21, hk21, hE7⟩ := hv
    replace hS := hS.new hE7
    simp only [List.cons_append, List.nil_append] at hS
    refine n_call H rfl en30 (join_w (hG.ext hS.x) ((hS.own 0 rfl).slr hn21 (eRec_len _)) (hS.any 1 rfl) (by rw [bulkR_key, hk21, ← bulkR_key]; exact hbk)) rfl ?_
    clear H a; intro v10 w8 hv a H
    obtain ⟨v22, u22, n22, hn22, rfl, hE9⟩ := hv
    replace hS := hS.new hE9
    simp only [List.cons_append, List.nil_append] at hS
    obtain ⟨A22, c22, hv22, _⟩ := (hS.own 0 rfl).form
    subst hv22
    refine n_q H (q_move rfl) rfl ?_
    clear H a; intro a H
    refine n_q H (q_extract rfl rfl) rfl ?_
    clear H a; intro a H
    refine n_q H (q_extract rfl rfl) rfl ?_
    clear H a; intro a H
    refine n_q H (q_assign rfl) rfl ?_
    clear H a; intro a H
    refine n_q H (q_assign rfl) rfl ?_
    clear H a; intro a H
    refine n_nil ?_
    refine then_normal ?_
    refine c_join (σ := Nat) H (fun z => [(1, .pointer (some ⟨b1, 0, none⟩))]) (fun z wl => St NB w wl [blkR b1 [.slice A0 xs.length c0, .slice AB bs.length cB, .slice AT nT cT, .string s] 64]) ?_ ?_
    · skip
      refine wp_seq ?_
      refine wp_region_lit ?_
      refine n_q H (q_move rfl) rfl ?_
      clear H a; intro a H
      refine n_q H (q_nilI Tryd.underlying43 rfl rfl (hS.any 1 rfl).form) rfl ?_
      clear H a; intro a H
      refine n_nil ?_
      refine then_normal ?_
      refine c_cond H rfl (fun hc26 => ?_) (fun hc26 => ?_)
      · skip
        have he : (joinM (ys.map RecM.key)).err = .nil := by rw [((hS.any 1 rfl)).isNil] at hc26; simpa using hc26
        obtain ⟨_, hok, hjm⟩ := join_nil (x := ⟨[], .nil⟩) he
        have hout : (joinM (ys.map RecM.key)).out = ((ys.map RecM.key).flatMap encK) := by unfold joinM; rw [hjm]; simp [WM.out]
        rw [hout] at hS hn22
        have hjl : ((ys.map RecM.key).flatMap encK).length ≤ 16777216 := by rw [enc_len, hk21, ← bulkR_key]; exact hbk
        refine wp_seq ?_
        refine wp_region_lit ?_
        refine n_q H (q_move rfl) rfl ?_
        clear H a; intro a H
        refine n_call H rfl en33 (split_w (bs := ((ys.map RecM.key).flatMap encK)) (hG.ext hS.x) (fun w' e => ((hS.own 0 rfl).ext e).slB hn22) hjl) rfl ?_
        clear H a; intro v13 w11 hv a H
        obtain ⟨v29, u29, zs, n29, e29, hn29, hsp, rfl, hE12⟩ := hv
        replace hS := hS.new hE12
        simp only [List.cons_append, List.nil_append] at hS
        rw [splitM, split_full (bs := ((ys.map RecM.key).flatMap encK)) (ks := ys.map RecM.key) hok rfl (Nat.zero_le _) (by omega)] at hsp
        simp only [List.nil_append, Prod.mk.injEq] at hsp
        obtain ⟨hzk, rfl⟩ := hsp
        have hu29 : u29 = .nilIface := (hS.any 2 rfl)
        subst hu29
        refine n_q H (q_move rfl) rfl ?_
        clear H a; intro a H
        refine n_q H (q_extract rfl rfl) rfl ?_
        clear H a; intro a H
        refine n_q H (q_extract rfl rfl) rfl ?_
        clear H a; intro a H
        refine n_q H (q_assign rfl) rfl ?_
        clear H a; intro a H
        refine n_q H (q_assign rfl) rfl ?_
        clear H a; intro a H
        refine n_nil ?_
        refine then_normal ?_
        refine wp_seq ?_
        refine wp_seq ?_
        refine wp_region_lit ?_
        refine n_c H (fun HC => ?_); clear H
        refine nc_q HC (q_move rfl) rfl (by kernel_rfl) ?_
        clear HC a; intro a HC
        refine nc_q HC (q_nnilI Tryd.underlying43 rfl rfl (.inl rfl)) rfl (by kernel_rfl) ?_
        clear HC a; intro a HC
        refine nc_q HC (q_move rfl) rfl (by kernel_rfl) ?_
        clear HC a; intro a HC
        refine nc_yes HC rfl rfl ?_
        refine nc_q HC (q_move rfl) rfl (by kernel_rfl) ?_
        clear HC a; intro a HC
        refine nc_yes HC rfl rfl ?_
        refine nc_q HC (q_fieldAddr0 rfl fo64_0) rfl (by kernel_rfl) ?_
        clear HC a; intro a HC
        refine nc_yes HC rfl rfl ?_
        refine nc_q HC (q_load rfl ((hS.blk 7 rfl).ld ag61 rfl)) rfl (by kernel_rfl) ?_
        clear HC a; intro a HC
        refine nc_yes HC rfl rfl ?_
        refine nc_call HC rfl en34 (sameRecs_w ((hS.own 0 rfl).slr hn29 (eRec_len _)) (hS.any 1 rfl) (h.ext (Flat.mono _) hS.x) (hr.ext hS.x)) rfl (by kernel_rfl) ?_
        clear HC a; intro v16 w14 hv a HC
        obtain ⟨rfl, hE15⟩ := hv
        replace hS := hS.ext hE15
        refine nc_yes HC rfl rfl ?_
        refine nc_q HC (q_not rfl) rfl (by kernel_rfl) ?_
        clear HC a; intro a HC
        refine nc_or (j := 2) HC rfl rfl rfl (by kernel_rfl) (by kernel_rfl) ?_
        clear HC a; intro a HC
        have H := HC.has; clear HC
        refine n_nil ?_
        refine then_normal ?_
        refine c_cond H rfl (fun hc40 => ?_) (fun hc40 => ?_)
        · skip
          simp [isNilI, hzk, hk21] at hc40
        · skip
          refine wp_skip ?_
          refine then_normal ?_
          refine wp_seq ?_
          refine wp_region_lit ?_
          refine n_q H (q_assign rfl) rfl ?_
          clear H a; intro a H
          refine n_nil ?_
          refine then_normal ?_
          refine wp_seq ?_
          refine wp_seq ?_
          refine wp_region_lit ?_
          refine n_q H (q_assign rfl) rfl ?_
          clear H a; intro a H
          refine n_nil ?_
          refine then_normal ?_
          refine wp_block ?_
          replace hS := hS.nilOwn 3 1
          replace hS := hS.pick 8 rfl
          dsimp only [List.eraseIdx] at hS
          replace hS := hS.pick 5 rfl
          dsimp only [List.eraseIdx] at hS
          replace hS := hS.pick 2 rfl
          dsimp only [List.eraseIdx] at hS
          replace hS := hS.take 3
          simp only [List.take_succ_cons, List.take_zero] at hS
          refine c_loop (σ := Nat × Value) (fun (i, vt) => [(1, .pointer (some ⟨b1, 0, none⟩)), (3, .slice A22 n22 c22), (7, vt), (8, .int .i64 (i : Nat))]) (fun (i, vt) wl => i ≤ xs.length ∧ St NB w wl [ownR 3 1 vt i (((xs.take i).map RecM.tag).flatMap eI), ownR 5 1 (.slice A22 n22 c22) n22 (((ys.map RecM.key).flatMap encK).flatMap eB), blkR b1 [.slice A0 xs.length c0, .slice AB bs.length cB, .slice AT nT cT, .string s] 64]) (fun (i, vt) => xs.length - i) (0, .slice none 0 0) H ⟨rfl, rfl, rfl, rfl, trivial⟩ ⟨Nat.zero_le _, hS⟩ ?_
          clear H hS; clear a; intro xx a w17 H hR
          obtain ⟨i, vt⟩ := xx
          simp only [ent, List.map_cons, List.map_nil] at H
          try dsimp only at hR
          obtain ⟨hi, hS⟩ := hR; try clear hR
          refine wp_seq ?_
          refine wp_seq ?_
          refine wp_region_lit ?_
          refine n_q H (q_move rfl) rfl ?_
          clear H a; intro a H
          refine n_q H (q_fieldAddr0 rfl fo64_0) rfl ?_
          clear H a; intro a H
          refine n_q H (q_load rfl ((hS.blk 2 rfl).ld ag61 rfl)) rfl ?_
          clear H a; intro a H
          refine n_q H (q_lenSl Tryd.underlying61 rfl) rfl ?_
          clear H a; intro a H
          refine n_q H (q_lss rfl rfl) rfl ?_
          clear H a; intro a H
          refine n_nil ?_
          refine then_normal ?_
          refine c_cond H rfl (fun hc45 => ?_) (fun hc45 => ?_)
          · skip
            have hi1 : i < xs.length := by simp at hc45; omega
            obtain ⟨r, hx⟩ := h.at hi1
            obtain ⟨ad0, had⟩ := h.addr hi1
            subst had
            refine wp_skip ?_
            refine then_normal ?_
            refine wp_seq ?_
            refine wp_block ?_
            refine wp_region_lit ?_
            refine n_q H (q_move rfl) rfl ?_
            clear H a; intro a H
            refine n_q H (q_fieldAddr0 rfl fo64_0) rfl ?_
            clear H a; intro a H
            refine n_q H (q_load rfl ((hS.blk 2 rfl).ld ag61 rfl)) rfl ?_
            clear H a; intro a H
            refine n_q H (q_move rfl) rfl ?_
            clear H a; intro a H
            refine n_q H (q_indexAddr Tryd.underlying61 sz86 rfl rfl (by omega) (by omega)) rfl ?_
            clear H a; intro a H
            refine n_q H (q_fieldAddr rfl fo86_0) rfl ?_
            clear H a; intro a H
            refine n_q H (q_load rfl (LdX.ext ((h.ldCell ag3 hx (j := 0) rfl)) hS.x)) rfl ?_
            clear H a; intro a H
            refine n_buildSlice H Tryd.underlying62 sz3 ze3 rfl rfl rfl (cs := [.int .i64 r.tag]) (by kernel_rfl) rfl ?_
            clear H; intro b55 w18 hN hE19 hs_b55; clear a; intro a H
            replace hS := hS.newBlk hN hE19 hs_b55; clear hN hE19
            replace hS := hS.pick 1 rfl
            dsimp only [List.eraseIdx] at hS
            refine n_append H rfl rfl Tryd.underlying62 Tryd.underlying62 (by simp) el3 (hS.own 0 rfl) (show Src _ 1 _ 1 (([r.tag] : List Int).flatMap eI) from (Own.ofBlk (n := 1) (k := 1) (hS.blk 1 rfl) rfl (by simp [maxLen])).src) (by simp [eI, Value.oneCell']) (by omega) (by simp only [maxLen]; omega) rfl ?_
            clear H; intro v56 w20 hN hC21 hb56 hnil56; clear a; intro a H
            replace hS := hS.setOwn hN hC21 hb56; clear hN
            refine n_q H (q_assign rfl) rfl ?_
            clear H a; intro a H
            refine n_nil ?_
            refine block_normal ?_
            refine then_normal ?_
            refine wp_region_lit ?_
            refine n_q H (q_move rfl) rfl ?_
            clear H a; intro a H
            refine n_q H (q_add rfl rfl (by constructor <;> omega)) rfl ?_
            clear H a; intro a H
            refine n_q H (q_assign rfl) rfl ?_
            clear H a; intro a H
            refine n_nil ?_
            refine then_normal ?_
            replace hS := hS.pick 3 rfl
            dsimp only [List.eraseIdx] at hS
            replace hS := hS.pick 3 rfl
            dsimp only [List.eraseIdx] at hS
            replace hS := hS.pick 2 rfl
            dsimp only [List.eraseIdx] at hS
            replace hS := hS.take 3
            simp only [List.take_succ_cons, List.take_zero] at hS
            exact round (i + 1, v56) H ⟨rfl, rfl, rfl, rfl, trivial⟩ ⟨by omega, by rw [take_snoc hx, List.map_append, List.flatMap_append]; exact hS⟩ (by first | omega | (dsimp only; omega))
          · skip
            obtain rfl : i = xs.length := by simp at hc45; omega
            rw [List.take_length] at hS
            refine wp_exit ?_
            refine then_exit ?_
            refine then_exit ?_
            refine block_exit ?_
            refine then_normal ?_
            refine wp_seq ?_
            refine wp_region_lit ?_
            refine n_q H (q_move rfl) rfl ?_
            clear H a; intro a H
            refine n_q H (q_move rfl) rfl ?_
            clear H a; intro a H
            refine n_call H rfl en36 (expect_w (bs := ((ys.map RecM.key).flatMap encK)) (tags := xs.map RecM.tag) (hG.ext hS.x) (fun w' e => ((hS.own 1 rfl).ext e).slB hn22) ((hS.own 0 rfl).slr (by simp) (fun _ _ => rfl)) hjl (by simp; omega)) rfl ?_
            clear H a; intro v24 w22 hv a H
            obtain ⟨v60, u60, bl, n60, e60, hn60, hex, rfl, hE23⟩ := hv
            replace hS := hS.new hE23
            simp only [List.cons_append, List.nil_append] at hS
            rw [show xs.map RecM.tag = (ys.map RecM.key).map (·.1) by rw [hk21]; simp [RecM.key, Function.comp_def]] at hex
            rw [expM, exp_full (bs := ((ys.map RecM.key).flatMap encK)) (ks := ys.map RecM.key) hok rfl (Nat.zero_le _)] at hex
            simp only [List.nil_append, Prod.mk.injEq] at hex
            obtain ⟨hbk2, rfl⟩ := hex
            have hu60 : u60 = .nilIface := (hS.any 2 rfl)
            subst hu60
            obtain ⟨A60, c60, hv60, _⟩ := (hS.own 0 rfl).form
            subst hv60
            have hn60x : n60 = xs.length := by rw [hn60, ← List.length_map (f := RecM.body), hbk2, List.length_map, hk21, List.length_map]
            have hbb : bl.map RecM.body = xs.map RecM.body := by rw [hbk2, hk21]; simp [RecM.key, Function.comp_def]
            refine n_q H (q_move rfl) rfl ?_
            clear H a; intro a H
            refine n_q H (q_extract rfl rfl) rfl ?_
            clear H a; intro a H
            refine n_q H (q_extract rfl rfl) rfl ?_
            clear H a; intro a H
            refine n_q H (q_assign rfl) rfl ?_
            clear H a; intro a H
            refine n_q H (q_assign rfl) rfl ?_
            clear H a; intro a H
            refine n_nil ?_
            refine then_normal ?_
            refine wp_seq ?_
            refine wp_seq ?_
            refine wp_region_lit ?_
            refine n_c H (fun HC => ?_); clear H
            refine nc_q HC (q_move rfl) rfl (by kernel_rfl) ?_
            clear HC a; intro a HC
            refine nc_q HC (q_nnilI Tryd.underlying43 rfl rfl (.inl rfl)) rfl (by kernel_rfl) ?_
            clear HC a; intro a HC
            refine nc_q HC (q_move rfl) rfl (by kernel_rfl) ?_
            clear HC a; intro a HC
            refine nc_yes HC rfl rfl ?_
            refine nc_q HC (q_move rfl) rfl (by kernel_rfl) ?_
            clear HC a; intro a HC
            refine nc_yes HC rfl rfl ?_
            refine nc_q HC (q_lenSl Tryd.underlying76 rfl) rfl (by kernel_rfl) ?_
            clear HC a; intro a HC
            refine nc_yes HC rfl rfl ?_
            refine nc_q HC (q_fieldAddr0 rfl fo64_0) rfl (by kernel_rfl) ?_
            clear HC a; intro a HC
            refine nc_yes HC rfl rfl ?_
            refine nc_q HC (q_load rfl ((hS.blk 5 rfl).ld ag61 rfl)) rfl (by kernel_rfl) ?_
            clear HC a; intro a HC
            refine nc_yes HC rfl rfl ?_
            refine nc_q HC (q_lenSl Tryd.underlying61 rfl) rfl (by kernel_rfl) ?_
            clear HC a; intro a HC
            refine nc_yes HC rfl rfl ?_
            refine nc_q HC (q_cast (q_neq rfl rfl) (show _ = Value.bool false by rw [hn60x]; simp)) rfl (by kernel_rfl) ?_
            clear HC a; intro a HC
            refine nc_or (j := 2) HC rfl rfl rfl (by kernel_rfl) (by kernel_rfl) ?_
            clear HC a; intro a HC
            have H := HC.has; clear HC
            refine n_nil ?_
            refine then_normal ?_
            refine c_cond H rfl (fun hc72 => ?_) (fun hc72 => ?_)
            · skip
              first | cases hc72 | simp [isNilI] at hc72
            · skip
              refine wp_skip ?_
              refine then_normal ?_
              refine wp_seq ?_
              refine wp_region_lit ?_
              refine n_q H (q_assign rfl) rfl ?_
              clear H a; intro a H
              refine n_nil ?_
              refine then_normal ?_
              refine wp_block ?_
              replace hS := hS.pick 5 rfl
              dsimp only [List.eraseIdx] at hS
              replace hS := hS.pick 2 rfl
              dsimp only [List.eraseIdx] at hS
              replace hS := hS.pick 2 rfl
              dsimp only [List.eraseIdx] at hS
              replace hS := hS.take 3
              simp only [List.take_succ_cons, List.take_zero] at hS
              refine c_loop (σ := Nat) (fun j => [(1, .pointer (some ⟨b1, 0, none⟩)), (9, .slice A60 n60 c60), (10, .int .i64 (j : Nat))]) (fun j wl => j ≤ xs.length ∧ St NB w wl [ownR 48 1 (.slice A60 n60 c60) n60 (bl.flatMap eBod), anyR (fun w' => RecsIn w' bl), blkR b1 [.slice A0 xs.length c0, .slice AB bs.length cB, .slice AT nT cT, .string s] 64]) (fun j => xs.length - j) 0 H ⟨rfl, rfl, rfl, trivial⟩ ⟨Nat.zero_le _, hS⟩ ?_
              clear H hS; clear a; intro j a w25 H hR
              simp only [ent, List.map_cons, List.map_nil] at H
              try dsimp only at hR
              obtain ⟨hj, hS⟩ := hR; try clear hR
              refine wp_seq ?_
              refine wp_seq ?_
              refine wp_region_lit ?_
              refine n_q H (q_move rfl) rfl ?_
              clear H a; intro a H
              refine n_q H (q_move rfl) rfl ?_
              clear H a; intro a H
              refine n_q H (q_lenSl Tryd.underlying76 rfl) rfl ?_
              clear H a; intro a H
              refine n_q H (q_lss rfl rfl) rfl ?_
              clear H a; intro a H
              refine n_nil ?_
              refine then_normal ?_
              refine c_cond H rfl (fun hc76 => ?_) (fun hc76 => ?_)
              · skip
                have hj1 : j < n60 := by simp at hc76; omega
                obtain ⟨bb, hxb⟩ : ∃ x, bl[j]? = some x := ⟨_, List.getElem?_eq_getElem (by omega)⟩
                obtain ⟨r, hx⟩ := h.at (show j < xs.length by omega)
                obtain ⟨ad0, had⟩ := h.addr (show j < xs.length by omega)
                subst had
                obtain ⟨b60, c61, hq60⟩ := (hS.own 0 rfl).sm (by omega)
                cases hq60
                have hrx := hr r (List.mem_of_getElem? hx)
                obtain ⟨Ar, cr, hqr, _⟩ := hrx.form
                have hbx := ((hS.any 1 rfl) : RecsIn _ bl) bb (List.mem_of_getElem? hxb)
                obtain ⟨Ab, cb, hqb, _⟩ := hbx.form
                have hbody : bb.body = r.body := by
                  have h1 : (bl.map RecM.body)[j]? = some bb.body := by simp [hxb]
                  rw [hbb] at h1
                  simp [hx] at h1
                  exact h1.symm
                refine wp_skip ?_
                refine then_normal ?_
                refine wp_seq ?_
                refine wp_block ?_
                refine wp_seq ?_
                refine c_quiet (by kernel_rfl) (by kernel_rfl) ?_
                refine qq_q H (q_move rfl) rfl ?_
                clear H a; intro a H
                refine qq_q H (q_move rfl) rfl ?_
                clear H a; intro a H
                refine qq_q H (q_cast (q_indexAddr (ad := ⟨b60, 0, none⟩) (n := n60) (c := c60) Tryd.underlying76 sz48 rfl rfl (by omega) (by omega)) (show _ = Value.pointer (some ((⟨b60, 0, none⟩ : Addr).add (j * 1))) by rw [show (j : Int).toNat = j by omega])) rfl ?_
                clear H a; intro a H
                refine qq_q H (q_load rfl (((((hS.own 0 rfl)).slr hn60 (fun _ _ => rfl)) : SlR _ 1 (Flat eBod) _ bl).ldOne ag48 hxb (congrArg (fun z => [z]) hqb))) rfl ?_
                clear H a; intro a H
                refine qq_q H (q_str Tryd.underlying48 Tryd.underlying5 Tryd.underlying9 rfl (fun w' e => (hqb ▸ hbx).ext (Flat.mono _) e)) rfl ?_
                clear H a; intro a H
                refine qq_q H (q_fieldAddr0 rfl fo64_0) rfl ?_
                clear H a; intro a H
                refine qq_q H (q_load rfl ((hS.blk 2 rfl).ld ag61 rfl)) rfl ?_
                clear H a; intro a H
                refine qq_q H (q_move rfl) rfl ?_
                clear H a; intro a H
                refine qq_q H (q_indexAddr Tryd.underlying61 sz86 rfl rfl (by omega) (by omega)) rfl ?_
                clear H a; intro a H
                refine qq_q H (q_fieldAddr rfl fo86_1) rfl ?_
                clear H a; intro a H
                refine qq_q H (q_load rfl (LdX.ext ((h.ldCell ag48 hx (j := 1) (congrArg some hqr))) hS.x)) rfl ?_
                clear H a; intro a H
                refine qq_q H (q_str Tryd.underlying48 Tryd.underlying5 Tryd.underlying9 rfl (fun w' e => (hqr ▸ hrx).ext (Flat.mono _) (Ext.trans' hS.x e))) rfl ?_
                clear H a; intro a H
                refine qq_q H (q_neqS rfl rfl) rfl ?_
                clear H a; intro a H
                refine qq_nil ?_
                intro w26 hE27
                replace hS := hS.ext hE27
                refine then_normal ?_
                refine c_cond H rfl (fun hc91 => ?_) (fun hc91 => ?_)
                · skip
                  simp [hbody] at hc91
                · skip
                  refine wp_skip ?_
                  refine block_normal ?_
                  refine then_normal ?_
                  refine wp_region_lit ?_
                  refine n_q H (q_move rfl) rfl ?_
                  clear H a; intro a H
                  refine n_q H (q_add rfl rfl (by constructor <;> omega)) rfl ?_
                  clear H a; intro a H
                  refine n_q H (q_assign rfl) rfl ?_
                  clear H a; intro a H
                  refine n_nil ?_
                  refine then_normal ?_
                  replace hS := hS.pick 2 rfl
                  dsimp only [List.eraseIdx] at hS
                  replace hS := hS.pick 2 rfl
                  dsimp only [List.eraseIdx] at hS
                  replace hS := hS.pick 2 rfl
                  dsimp only [List.eraseIdx] at hS
                  exact round (j + 1) H ⟨rfl, rfl, rfl, trivial⟩ ⟨by omega, hS⟩ (by first | omega | (dsimp only; omega))
              · skip
                refine wp_exit ?_
                refine then_exit ?_
                refine then_exit ?_
                refine block_exit ?_
                refine then_normal ?_
                replace hS := hS.pick 2 rfl
                dsimp only [List.eraseIdx] at hS
                replace hS := hS.take 1
                simp only [List.take_succ_cons, List.take_zero] at hS
                exact join 0 H ⟨rfl, trivial⟩ hS
      · skip
        refine wp_skip ?_
        refine then_normal ?_
        replace hS := hS.pick 4 rfl
        dsimp only [List.eraseIdx] at hS
        replace hS := hS.take 1
        simp only [List.take_succ_cons, List.take_zero] at hS
        exact join 0 H ⟨rfl, trivial⟩ hS
    · clear H hS; clear a
      intro z a w28 H hR
      simp only [ent, List.map_cons, List.map_nil] at H
      try dsimp only at hR
      have hS := hR; try clear hR
      refine wp_seq ?_
      refine wp_region_lit ?_
      refine n_q H (q_fieldAddr0 rfl fo64_1) rfl ?_
      clear H a; intro a H
      refine n_q H (q_load rfl ((hS.blk 0 rfl).ld ag48 rfl)) rfl ?_
      clear H a; intro a H
      refine n_call H rfl en33 (split_w (bs := bs) (hG.ext hS.x) (fun w' e => hB.ext (Flat.mono _) (Ext.trans' hS.x e)) (by omega)) rfl ?_
      clear H a; intro v31 w29 hv a H
      obtain ⟨v95, u95, zs2, n95, e95, hn95, hsp2, rfl, hE30⟩ := hv
      replace hS := hS.new hE30
      simp only [List.cons_append, List.nil_append] at hS
      refine n_q H (q_move rfl) rfl ?_
      clear H a; intro a H
      refine n_q H (q_extract rfl rfl) rfl ?_
      clear H a; intro a H
      refine n_q H (q_extract rfl rfl) rfl ?_
      clear H a; intro a H
      refine n_q H (q_assign rfl) rfl ?_
      clear H a; intro a H
      refine n_q H (q_assign rfl) rfl ?_
      clear H a; intro a H
      refine n_nil ?_
      refine then_normal ?_
      refine c_join (σ := Nat) H (fun z => [(1, .pointer (some ⟨b1, 0, none⟩))]) (fun z wl => St NB w wl [blkR b1 [.slice A0 xs.length c0, .slice AB bs.length cB, .slice AT nT cT, .string s] 64]) ?_ ?_
      · skip
        refine wp_seq ?_
        refine wp_region_lit ?_
        refine n_q H (q_move rfl) rfl ?_
        clear H a; intro a H
        refine n_q H (q_nilI Tryd.underlying43 rfl rfl (hS.any 2 rfl).form) rfl ?_
        clear H a; intro a H
        refine n_nil ?_
        refine then_normal ?_
        refine c_cond H rfl (fun hc99 => ?_) (fun hc99 => ?_)
        · skip
          have he2 : e95 = .nil := by rw [((hS.any 2 rfl)).isNil] at hc99; simpa using hc99
          subst he2
          obtain ⟨l2, hl2, hok2, hd2⟩ := split_back (show splitF bs (bs.length + 1) 0 [] = _ from hsp2.symm) (Nat.zero_le _) (by omega)
          simp only [List.nil_append] at hl2
          subst hl2
          rw [List.drop_zero] at hd2
          refine wp_seq ?_
          refine wp_region_lit ?_
          refine n_q H (q_move rfl) rfl ?_
          clear H a; intro a H
          refine n_call H rfl en30 (join_w (hG.ext hS.x) ((hS.own 0 rfl).slr hn95 (eRec_len _)) (hS.any 1 rfl) (by rw [bulkR_key, ← enc_len, ← hd2]; omega)) rfl ?_
          clear H a; intro v34 w32 hv a H
          obtain ⟨v102, u102, n102, hn102, rfl, hE33⟩ := hv
          replace hS := hS.new hE33
          simp only [List.cons_append, List.nil_append] at hS
          have hj2 : joinM (zs2.map RecM.key) = ⟨bs, .nil⟩ := by unfold joinM; rw [join_ok hok2, ← hd2]; rfl
          rw [hj2] at hS hn102
          rw [show (⟨bs, .nil⟩ : WM).out = bs from rfl] at hS hn102
          have hu102 : u102 = .nilIface := (hS.any 1 rfl)
          subst hu102
          obtain ⟨A102, c102, hv102, _⟩ := (hS.own 0 rfl).form
          subst hv102
          refine n_q H (q_move rfl) rfl ?_
          clear H a; intro a H
          refine n_q H (q_extract rfl rfl) rfl ?_
          clear H a; intro a H
          refine n_q H (q_extract rfl rfl) rfl ?_
          clear H a; intro a H
          refine n_q H (q_assign rfl) rfl ?_
          clear H a; intro a H
          refine n_q H (q_assign rfl) rfl ?_
          clear H a; intro a H
          refine n_nil ?_
          refine then_normal ?_
          refine wp_seq ?_
          refine wp_region_lit ?_
          refine n_c H (fun HC => ?_); clear H
          refine nc_q HC (q_move rfl) rfl (by kernel_rfl) ?_
          clear HC a; intro a HC
          refine nc_q HC (q_nnilI Tryd.underlying43 rfl rfl (.inl rfl)) rfl (by kernel_rfl) ?_
          clear HC a; intro a HC
          refine nc_q HC (q_move rfl) rfl (by kernel_rfl) ?_
          clear HC a; intro a HC
          refine nc_yes HC rfl rfl ?_
          refine nc_q HC (q_move rfl) rfl (by kernel_rfl) ?_
          clear HC a; intro a HC
          refine nc_yes HC rfl rfl ?_
          refine nc_q HC (q_str Tryd.underlying48 Tryd.underlying5 Tryd.underlying9 rfl (fun w' e => ((hS.own 0 rfl).ext e).slB hn102)) rfl (by kernel_rfl) ?_
          clear HC a; intro a HC
          refine nc_yes HC rfl rfl ?_
          refine nc_q HC (q_fieldAddr0 rfl fo64_1) rfl (by kernel_rfl) ?_
          clear HC a; intro a HC
          refine nc_yes HC rfl rfl ?_
          refine nc_q HC (q_load rfl ((hS.blk 5 rfl).ld ag48 rfl)) rfl (by kernel_rfl) ?_
          clear HC a; intro a HC
          refine nc_yes HC rfl rfl ?_
          refine nc_q HC (q_str Tryd.underlying48 Tryd.underlying5 Tryd.underlying9 rfl (fun w' e => hB.ext (Flat.mono _) (Ext.trans' hS.x e))) rfl (by kernel_rfl) ?_
          clear HC a; intro a HC
          refine nc_yes HC rfl rfl ?_
          refine nc_q HC (q_cast (q_neqS rfl rfl) (show _ = Value.bool false by simp)) rfl (by kernel_rfl) ?_
          clear HC a; intro a HC
          refine nc_or (j := 2) HC rfl rfl rfl (by kernel_rfl) (by kernel_rfl) ?_
          clear HC a; intro a HC
          have H := HC.has; clear HC
          refine n_nil ?_
          refine then_normal ?_
          refine c_cond H rfl (fun hc114 => ?_) (fun hc114 => ?_)
          · skip
            first | cases hc114 | simp [isNilI] at hc114
          · skip
            refine wp_skip ?_
            refine then_normal ?_
            replace hS := hS.pick 5 rfl
            dsimp only [List.eraseIdx] at hS
            replace hS := hS.take 1
            simp only [List.take_succ_cons, List.take_zero] at hS
            exact join 0 H ⟨rfl, trivial⟩ hS
        · skip
          refine wp_skip ?_
          refine then_normal ?_
          replace hS := hS.pick 3 rfl
          dsimp only [List.eraseIdx] at hS
          replace hS := hS.take 1
          simp only [List.take_succ_cons, List.take_zero] at hS
          exact join 0 H ⟨rfl, trivial⟩ hS
      · clear H hS; clear a
        intro z a w35 H hR
        simp only [ent, List.map_cons, List.map_nil] at H
        try dsimp only at hR
        have hS := hR; try clear hR
        refine wp_seq ?_
        refine wp_region_lit ?_
        refine n_q H (q_fieldAddr0 rfl fo64_1) rfl ?_
        clear H a; intro a H
        refine n_q H (q_load rfl ((hS.blk 0 rfl).ld ag48 rfl)) rfl ?_
        clear H a; intro a H
        refine n_call H rfl en39 (hex_w (bs := bs) (fun w' e => hB.ext (Flat.mono _) (Ext.trans' hS.x e)) (by omega)) rfl ?_
        clear H a; intro v38 w36 hv a H
        obtain ⟨rfl, hE37⟩ := hv
        replace hS := hS.ext hE37
        refine n_q H (q_assign rfl) rfl ?_
        clear H a; intro a H
        refine n_nil ?_
        refine then_normal ?_
        refine wp_seq ?_
        refine wp_region_lit ?_
        refine n_q H (q_move rfl) rfl ?_
        clear H a; intro a H
        refine n_call H rfl en38 (unhex_w (s := strB (hexM bs)) (hG.ext hS.x) (by rw [strB_size, hexM_len]; omega)) rfl ?_
        clear H a; intro v41 w39 hv a H
        obtain ⟨v120, u120, n120, hn120, rfl, hE40⟩ := hv
        replace hS := hS.new hE40
        simp only [List.cons_append, List.nil_append] at hS
        rw [show (strB (hexM bs)).data.toList = hexM bs from rfl, unhex_hex] at hS hn120
        have hu120 : u120 = .nilIface := (hS.any 1 rfl)
        subst hu120
        obtain ⟨A120, c120, hv120, _⟩ := (hS.own 0 rfl).form
        subst hv120
        refine n_q H (q_move rfl) rfl ?_
        clear H a; intro a H
        refine n_q H (q_extract rfl rfl) rfl ?_
        clear H a; intro a H
        refine n_q H (q_extract rfl rfl) rfl ?_
        clear H a; intro a H
        refine n_q H (q_assign rfl) rfl ?_
        clear H a; intro a H
        refine n_q H (q_assign rfl) rfl ?_
        clear H a; intro a H
        refine n_nil ?_
        refine then_normal ?_
        refine wp_seq ?_
        refine wp_seq ?_
        refine wp_region_lit ?_
        refine n_c H (fun HC => ?_); clear H
        refine nc_q HC (q_move rfl) rfl (by kernel_rfl) ?_
        clear HC a; intro a HC
        refine nc_q HC (q_nnilI Tryd.underlying43 rfl rfl (.inl rfl)) rfl (by kernel_rfl) ?_
        clear HC a; intro a HC
        refine nc_q HC (q_move rfl) rfl (by kernel_rfl) ?_
        clear HC a; intro a HC
        refine nc_yes HC rfl rfl ?_
        refine nc_q HC (q_move rfl) rfl (by kernel_rfl) ?_
        clear HC a; intro a HC
        refine nc_yes HC rfl rfl ?_
        refine nc_q HC (q_str Tryd.underlying48 Tryd.underlying5 Tryd.underlying9 rfl (fun w' e => ((hS.own 0 rfl).ext e).slB hn120)) rfl (by kernel_rfl) ?_
        clear HC a; intro a HC
        refine nc_yes HC rfl rfl ?_
        refine nc_q HC (q_fieldAddr0 rfl fo64_1) rfl (by kernel_rfl) ?_
        clear HC a; intro a HC
        refine nc_yes HC rfl rfl ?_
        refine nc_q HC (q_load rfl ((hS.blk 2 rfl).ld ag48 rfl)) rfl (by kernel_rfl) ?_
        clear HC a; intro a HC
        refine nc_yes HC rfl rfl ?_
        refine nc_q HC (q_str Tryd.underlying48 Tryd.underlying5 Tryd.underlying9 rfl (fun w' e => hB.ext (Flat.mono _) (Ext.trans' hS.x e))) rfl (by kernel_rfl) ?_
        clear HC a; intro a HC
        refine nc_yes HC rfl rfl ?_
        refine nc_q HC (q_cast (q_neqS rfl rfl) (show _ = Value.bool false by simp)) rfl (by kernel_rfl) ?_
        clear HC a; intro a HC
        refine nc_or (j := 2) HC rfl rfl rfl (by kernel_rfl) (by kernel_rfl) ?_
        clear HC a; intro a HC
        refine nc_q HC (q_move rfl) rfl (by kernel_rfl) ?_
        clear HC a; intro a HC
        refine nc_yes HC rfl rfl ?_
        refine nc_q HC (q_move rfl) rfl (by kernel_rfl) ?_
        clear HC a; intro a HC
        refine nc_yes HC rfl rfl ?_
        refine nc_q HC (q_lenS Tryd.underlying9 rfl) rfl (by kernel_rfl) ?_
        clear HC a; intro a HC
        refine nc_yes HC rfl rfl ?_
        refine nc_q HC (q_fieldAddr0 rfl fo64_1) rfl (by kernel_rfl) ?_
        clear HC a; intro a HC
        refine nc_yes HC rfl rfl ?_
        refine nc_q HC (q_load rfl ((hS.blk 2 rfl).ld ag48 rfl)) rfl (by kernel_rfl) ?_
        clear HC a; intro a HC
        refine nc_yes HC rfl rfl ?_
        refine nc_q HC (q_lenSl Tryd.underlying48 rfl) rfl (by kernel_rfl) ?_
        clear HC a; intro a HC
        refine nc_yes HC rfl rfl ?_
        refine nc_q HC (q_mul rfl rfl (by constructor <;> omega)) rfl (by kernel_rfl) ?_
        clear HC a; intro a HC
        refine nc_yes HC rfl rfl ?_
        refine nc_q HC (q_cast (q_neq rfl rfl) (show _ = Value.bool false by rw [strB_size, hexM_len]; simp)) rfl (by kernel_rfl) ?_
        clear HC a; intro a HC
        refine nc_or (j := 10) HC rfl rfl rfl (by kernel_rfl) (by kernel_rfl) ?_
        clear HC a; intro a HC
        have H := HC.has; clear HC
        refine n_nil ?_
        refine then_normal ?_
        refine c_cond H rfl (fun hc141 => ?_) (fun hc141 => ?_)
        · skip
          first | cases hc141 | simp [isNilI] at hc141
        · skip
          refine wp_skip ?_
          refine then_normal ?_
          refine wp_seq ?_
          refine wp_region_lit ?_
          refine n_q H (q_fieldAddr0 rfl fo64_3) rfl ?_
          clear H a; intro a H
          refine n_q H (q_load rfl ((hS.blk 2 rfl).ld ag9 rfl)) rfl ?_
          clear H a; intro a H
          refine n_call H rfl en38 (unhex_w (s := s) (hG.ext hS.x) (by omega)) rfl ?_
          clear H a; intro v44 w42 hv a H
          obtain ⟨v145, u145, n145, hn145, rfl, hE43⟩ := hv
          replace hS := hS.new hE43
          simp only [List.cons_append, List.nil_append] at hS
          refine n_q H (q_move rfl) rfl ?_
          clear H a; intro a H
          refine n_q H (q_extract rfl rfl) rfl ?_
          clear H a; intro a H
          refine n_q H (q_extract rfl rfl) rfl ?_
          clear H a; intro a H
          refine n_q H (q_assign rfl) rfl ?_
          clear H a; intro a H
          refine n_q H (q_assign rfl) rfl ?_
          clear H a; intro a H
          refine n_nil ?_
          refine then_normal ?_
          refine wp_seq ?_
          refine c_quiet (by kernel_rfl) (by kernel_rfl) ?_
          refine qq_c H (fun HC => ?_); clear H
          have hul : (unhexM s.data.toList).1.length ≤ 35184372088832 := Nat.le_trans (unhex_len _) (by rw [show s.data.toList.length = s.size from rfl]; omega)
          refine qc_q HC (q_move rfl) rfl (by kernel_rfl) ?_
          clear HC a; intro a HC
          refine qc_q HC (q_nnilI Tryd.underlying43 rfl rfl (hS.any 1 rfl).form) rfl (by kernel_rfl) ?_
          clear HC a; intro a HC
          refine qc_q HC (q_move rfl) rfl (by kernel_rfl) ?_
          clear HC a; intro a HC
          refine qc_g HC (q_move rfl) (by kernel_rfl) (by kernel_rfl) (by kernel_rfl) ?_
          clear HC a; intro a HC
          refine qc_gcall0 HC rfl en39 ((fun w' hw => hex_w (bs := (unhexM s.data.toList).1) (fun w'' e => (((hS.own 0 rfl).ext hw).ext e).slB hn145) hul)) (by kernel_rfl) (by kernel_rfl) (by kernel_rfl) ?_
          clear HC a; intro a HC
          refine qc_g HC (q_fieldAddr0 rfl fo64_3) (by kernel_rfl) (by kernel_rfl) (by kernel_rfl) ?_
          clear HC a; intro a HC
          refine qc_g HC (q_load rfl ((hS.blk 4 rfl).ld ag9 rfl)) (by kernel_rfl) (by kernel_rfl) (by kernel_rfl) ?_
          clear HC a; intro a HC
          refine qc_g HC (q_eqlS rfl rfl) (by kernel_rfl) (by kernel_rfl) (by kernel_rfl) ?_
          clear HC a; intro a HC
          refine qc_or (j := 2) HC rfl rfl rfl (by kernel_rfl) (by kernel_rfl) ?_
          clear HC a; intro a HC
          refine qc_q HC (q_assign rfl) rfl (by kernel_rfl) ?_
          clear HC a; intro a HC
          have H := HC.has; clear HC
          refine qq_nil ?_
          intro w45 hE46
          replace hS := hS.ext hE46
          refine then_normal ?_
          refine wp_ret ?_
          refine ret1 H (.inr rfl) rfl rfl ?_
          exact ⟨congrArg Value.bool (by rw [(hS.any 1 rfl : IsE A _ u145 _).isNil]; exact turn_last s), hS.x⟩

end Go.Proofs.YtdglaodhmlocdaaDoor
