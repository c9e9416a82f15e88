/- The walk of NetOwns. -/
import Derived.Test.YtmkjonfdeolihaaLike
import Derived.Test.YtmkjonfdeolihaaU8
import Derived.Test.YtmkjonfdeolihaaTakesW
namespace Go.Proofs.Ytmkjonfdeolihaa
set_option linter.unusedVariables false
set_option linter.unusedSimpArgs false
open Go.RowKit

def Own (w0 wr : World) (l : List Pk) (v Lv : Value) : Prop :=
  Chg NoM w0 wr ∧ NetAt wr w0.heap.size w0.heap.size 9 l 0 v ∧ RefAt wr w0.heap.size Lv (rdata l) ∧ (∀ p ∈ l, p.b.length ≤ 6)
theorem Own.chgNo {w0 wr w' : World} {l : List Pk} {v Lv : Value} (h : Own w0 wr l v Lv) (hc : Chg NoM wr w') : Own w0 w' l v Lv :=
  ⟨h.1.trans hc, h.2.1.chgNo hc, h.2.2.1.chgNo hc, h.2.2.2⟩
theorem Own.put {w0 wr w' : World} {l l' : List Pk} {v v' Lv Lv' : Value} (h : Own w0 wr l v Lv) (hL : RefAt wr w0.heap.size Lv' (rdata l')) (hc : Chg (NetX w0.heap.size v) wr w') (hn : NetAt w' w0.heap.size w0.heap.size 9 l' 0 v')
    (h6 : ∀ p ∈ l', p.b.length ≤ 6) : Own w0 w' l' v' Lv' := by
  refine ⟨h.1.thenAll hc (NetX.new h.2.1), hn, Row.chg hL hc ?_, h6⟩
  rintro g c f hg _ (e | e)
  · exact Row.own_ne hL h.2.1.2.1 (by decide) (by rw [hg]; exact congrArg some e)
  · exact RowM.ne (by decide) e
/-- Bytes that are new were changed. -/
def NewB (B : Nat) : Nat → Obj → Prop := fun k o => B ≤ k ∧ ∃ c f, o = .cells c 5 f
theorem NewB.ne {B t k : Nat} {c : Array Value} {f : Nat × Nat} (h : t ≠ 5) : ¬ NewB B k (.cells c t f) := by
  rintro ⟨_, c', f', h'⟩
  injection h' with _ h'
  exact h h'
theorem NewB.lt {B k : Nat} {o : Obj} (h : k < B) : ¬ NewB B k o := by rintro ⟨h', _⟩; omega
theorem Own.bytes {w0 wr w' : World} {l : List Pk} {v Lv : Value} {M : Nat → Obj → Prop} (h : Own w0 wr l v Lv) (hc : Chg M wr w') (h1 : ∀ i o, M i o → w0.heap.size ≤ i) (h2 : ∀ k c t f, t ≠ 5 → ¬ M k (.cells c t f)) (h3 : ∀ p ∈ l, ∀ c f, ¬ M p.blk (.cells c 5 f)) : Own w0 w' l v Lv :=
  ⟨h.1.thenAll hc h1, h.2.1.chg hc (fun _ _ _ _ => h2 _ _ _ _ (by decide)) (fun _ _ _ _ => h2 _ _ _ _ (by decide)) h3, Row.chg h.2.2.1 hc (fun _ _ _ _ _ => h2 _ _ _ _ (by decide)), h.2.2.2⟩
theorem rdata_pdata' {L l : List Pk} (h : pdata L = pdata l) : rdata L = rdata l := by
  have e : ∀ m : List Pk, rdata m = (pdata m).map fun q => (q.1, (⟨q.2.toArray⟩ : ByteArray)) := fun m => by simp [rdata, pdata]
  rw [e, e, h]
theorem u8_inc {z : Int} (h0 : 0 ≤ z) (h1 : z ≤ 255) : 0 ≤ IntKind.u8.wrap (z + 1) ∧ IntKind.u8.wrap (z + 1) ≤ 255 := by
  simp [IntKind.wrap, IntKind.bits, IntKind.signed]
  omega

set_option maxRecDepth 20000 in
set_option maxHeartbeats 4000000 in
theorem owns_walk (A : Option Addr) (ds : List Dd) (c : Nat) (w : World) (hds : RowsAt DeedR 4 w A ds) :
    Calls Try.prog 5 #[.slice A ds.length c] w fun e w' => e = .returned (.bool true) ∧ Below w.heap.size w w' := by
  have HD := Lib.hid hds
  have dl := hds.1
  clear hds
  go_enter Try.func5, Try.ntmps5
  go_wp2_with fail
  refine (new_yes 9 _ (by omega) (by omega)).mono ?_
  rintro e w1 ⟨rfl, hn1, hs1, hc1⟩
  have HS0 : Hid (Own w w1 [] (.slice none 0 0) (.slice none 0 0)) := ⟨hc1, hn1, Row.nil _ _ _ _, fun p hp => by cases hp⟩
  clear hn1 hc1 hs1
  go_wp2_with fail
  go_loopw [5, 6] (fun v5 i wr => ∃ k : Nat, k ≤ ds.length ∧ k ≤ 6 ∧ i = .int .i64 k ∧ ∃ l v, Hid (Own w wr l v v5) ∧ Hid (l.length = k)) (fun _ i _ => 6 - (intOf i).toNat)
  case atStart => exact ⟨0, by omega, by omega, rfl, [], _, HS0, rfl⟩
  case round =>
    obtain ⟨k, hk1, hk2, rfl, l, v, HS, HL⟩ := hrel
    obtain ⟨AR, cR, rfl, _, _⟩ := Row.slice HS.out.2.2.1
    have L0 := HL.out
    by_cases hlt : k < ds.length ∧ k < 6
    · obtain ⟨ha, hb⟩ := hlt
      obtain ⟨b, off, d, hA, hd, hby0, hbw, e0, e1, e2, e3, hby, hbl, hbc, hto, -, -, -, -⟩ := deed_at HD.out HS.out.1 k ha
      cases hA
      have BY := Lib.hid hby0
      clear hby0
      have i0 : (0 : Int) ≤ (k : Int) := by omega
      have i1 : (k : Int) < (ds.length : Int) := by omega
      clear hd hby L0
      go_wp2_with fail
      refine (packet_any d.dd d.kk d.to d.ba d.bs.length d.bc _ hto hbl hbc).mono ?_
      rintro e w1 ⟨rfl, hc1⟩
      have S1 := Lib.hid (HS.out.chgNo hc1)
      have B1 : Hid (Bytes w d.ba (d.bs.take 6)) := BY.out.take 6
      have E1 : Hid ((d.bs.take 6).length = min d.bs.length 6) := by rw [List.length_take]; show _ = _; omega
      clear hc1 e0 e1 e2 e3
      obtain ⟨bs, hbs⟩ : ∃ bs, bs = d.bs.take 6 := ⟨_, rfl⟩
      rw [← hbs] at B1 E1
      obtain ⟨m, hm⟩ : ∃ m, m = min d.bs.length 6 := ⟨_, rfl⟩
      rw [← hm] at E1 ⊢
      have hm6 : m ≤ 6 := by omega
      have hmbs := E1.out
      clear hbs hm E1
      subst hmbs
      have hbs1 := run_string_bytes (P := Try.prog) (w1.alloc (.cells #[.string (fewS d.to 4), .slice d.ba bs.length d.bc] 36)) 34 9 5 Try.underlying34 Try.underlying5 Try.underlying9 d.ba bs d.bc (B1.out.chgNo (S1.out.1.alloc _))
      go_wp2_with (refine wpList_append_Row _ rfl (.tmp 38) (.tmp 45) 31 rfl w.heap.size 44 _ 2 32 Try.underlying31 Try.info44 rfl (by omega) (.slice AR (rdata l).length cR) (rdata l).length (rcells (rdata l)) rfl ?d0 (some ⟨w1.heap.size + 1, 0, none⟩) 1 1 (rcells [(fewS d.to 4, ⟨bs.toArray⟩)]) rfl ?dx ?d1 ?d2 ?d3 ?d4 ?d5 ?_)
      case d0 => exact RefAt.chgNo S1.out.2.2.1 (((Chg.refl w1).alloc _).alloc _)
      case dx => rfl
      case d1 =>
        have h := blk_new (w1.alloc (.cells #[.string (fewS d.to 4), .slice d.ba bs.length d.bc] 36)) (.cells #[.string (fewS d.to 4), .string ⟨bs.toArray⟩] 44)
        rw [show (w1.alloc (.cells #[.string (fewS d.to 4), .slice d.ba bs.length d.bc] 36)).heap.size = w1.heap.size + 1 by simp] at h
        exact fun _ => ⟨_, rfl, news_blk (cs := [.string (fewS d.to 4), .string ⟨bs.toArray⟩]) h⟩
      case d2 => exact rcells_cell _
      case d3 => rw [rdata_len]; have := HL.out; omega
      case d4 => rw [rdata_len]; have := HL.out; omega
      case d5 => have := (S1.out.1.alloc (.cells #[.string (fewS d.to 4), .slice d.ba bs.length d.bc] 36)).size; simp at this ⊢; omega
      intro v' w3 R
      have hrow := R.row
      have s1 : w1.heap.size + 2 ≤ w3.heap.size := by have := R.chg.size; simpa using this
      have C3 : Hid (Chg NoM w w3) := (((S1.out.1.alloc _).alloc _)).thenAll R.chg (fun i o h => S1.out.2.2.1.own_ge h.own)
      have bx3 := R.chg.block _ _ (blk_alloc (blk_new w1 (.cells #[.string (fewS d.to 4), .slice d.ba bs.length d.bc] 36)) (.cells #[.string (fewS d.to 4), .string ⟨bs.toArray⟩] 44)) (RowM.ne (by decide))
      have N3 : Hid (NetAt w3 w.heap.size w.heap.size 9 l 0 v) := (S1.out.2.1.chgNo (((Chg.refl w1).alloc _).alloc _)).chg R.chg (fun _ _ _ _ => RowM.ne (by decide)) (fun _ _ _ _ => RowM.ne (by decide)) (fun _ _ _ _ => RowM.ne (by decide))
      have LT1 : Hid (∀ p ∈ l, p.blk < w1.heap.size) := fun p hp => lt_of_blk (S1.out.2.1.2.2.2 p hp)
      have hbs3 := run_string_bytes (P := Try.prog) w3 34 9 5 Try.underlying34 Try.underlying5 Try.underlying9 d.ba bs d.bc (B1.out.chgNo C3.out)
      obtain ⟨n3, hn3⟩ : ∃ n, n = (rdata l).length + 1 := ⟨_, rfl⟩
      rw [← hn3] at hrow
      have HN3 := Lib.hid hn3
      clear hn3
      obtain ⟨A3, c3, rfl, _, _⟩ := hrow.slice
      have R3 := Lib.hid hrow
      clear R hrow hbs1
      have n31 : w.heap.size ≠ w3.heap.size := by have := C3.out.size; have := lt_of_blk N3.out.2.1; omega
      have bx3_c0 := blk_cell bx3 0; have bx3_f0 := blk_free bx3 0; have bx3_c1 := blk_cell bx3 1; have bx3_f1 := blk_free bx3 1; have H_bx3 := Lib.hid bx3; clear bx3
      go_wp2_with (refine wpList_conv_sb rfl (.tmp 49) 9 34 rfl Try.underlying9 Try.underlying34 Try.underlying5 bs rfl (by omega) ?_)
      intro w4 c4 hb4 hu4 hc4 hs4
      have bx4 := hc4.blkNo H_bx3.out
      have HB4 := Lib.hid hb4
      have HU4 := Lib.hid hu4
      have C4 := Lib.hid hc4
      have S4 := Lib.hid hs4
      clear hb4 hu4 hc4 hs4 hbs3 bx3_c0 bx3_c1 bx3_f0 bx3_f1
      have bx4_c0 := blk_cell bx4 0; have bx4_f0 := blk_free bx4 0; have bx4_c1 := blk_cell bx4 1; have bx4_f1 := blk_free bx4 1; have H_bx4 := Lib.hid bx4; clear bx4
      have LL := HL.out
      go_wp2_with fail
      refine (put_yes w.heap.size w.heap.size 9 0 l v (fewS d.to 4) (some ⟨w3.heap.size, 0, none⟩) c4 bs w4 (N3.out.chgNo C4.out) HB4.out (by omega) (by omega) (by omega)).mono ?_
      rintro e w5 ⟨rfl, bb, v5, hbb, hn5, hc5⟩
      have OW5 : Hid (Own w w5 (l ++ [⟨fewS d.to 4, bs, bb⟩]) v5 (.slice A3 n3 c3)) := by
        have h3 : Own w w3 l v (.slice AR (rdata l).length cR) → False ∨ True := fun _ => .inr trivial
        have hR3 : RefAt w3 w.heap.size (.slice A3 n3 c3) (rdata (l ++ [⟨fewS d.to 4, bs, bb⟩])) := by
          have := R3.out
          rw [HN3.out] at this ⊢
          rw [rdata_append]
          unfold RefAt
          rw [rcells_append, List.length_append]
          exact this
        refine ⟨(C3.out.trans C4.out).thenAll hc5 (NetX.new (N3.out.chgNo C4.out)), hn5, Row.chg (RefAt.chgNo hR3 C4.out) hc5 ?_, ?_⟩
        · rintro g c f hg _ (e | e)
          · exact Row.own_ne (RefAt.chgNo hR3 C4.out) (N3.out.chgNo C4.out).2.1 (by decide) (by rw [hg]; exact congrArg some e)
          · exact RowM.ne (by decide) e
        · intro p hp
          rcases List.mem_append.1 hp with h | h
          · exact HS.out.2.2.2 p h
          · obtain rfl : p = ⟨fewS d.to 4, bs, bb⟩ := by simpa using h
            exact hm6
      have NE5 : Hid (∀ p ∈ l ++ [(⟨fewS d.to 4, bs, bb⟩ : Pk)], p.blk ≠ w3.heap.size) := by
        intro p hp
        rcases List.mem_append.1 hp with h | h
        · have := LT1.out p h; omega
        · obtain rfl : p = ⟨fewS d.to 4, bs, bb⟩ := by simpa using h
          have := S4.out
          show bb ≠ _
          omega
      have HU5 : Hid (U8Row w5 w3.heap.size bs.length) := HU4.out.chg hc5 (by
        rintro c f (e | e)
        · exact n31 e.symm
        · exact RowM.ne (by decide) e)
      have BB5 := Lib.hid hbb
      clear hbb hn5 hc5 bx4_c0 bx4_c1 bx4_f0 bx4_f1
      go_wp2_with fail
      go_loopw [9] (fun i wr => ∃ j : Nat, j ≤ bs.length ∧ i = .int .i64 j ∧ Hid (U8Row wr w3.heap.size bs.length) ∧ Hid (Chg (BoxM w3.heap.size 5) w5 wr)) (fun i _ => bs.length - (intOf i).toNat)
      case atStart => exact ⟨0, by omega, rfl, HU5, Chg.refl _⟩
      case round =>
        obtain ⟨j, hj, rfl, HU, CB⟩ := hrel
        by_cases hjb : j < bs.length
        · obtain ⟨z, z0, z1, hz, hf⟩ := HU.out.cell j hjb
          have i2 : (0 : Int) ≤ (j : Int) := by omega
          have i3 : (j : Int) < (bs.length : Int) := by omega
          go_wp2_with fail
          refine ⟨⟨j + 1, by omega, by go_num, HU.out.set _ _ _ (by omega) (by omega), ?_⟩, by simp [intOf]; omega⟩
          obtain ⟨cur, f, hb, _⟩ := HU5.out
          exact CB.out.setBox hb
        · go_wp2_with fail
          refine ⟨⟨k + 1, by omega, by omega, by go_num, l ++ [⟨fewS d.to 4, bs, bb⟩], v5, ?_, ?_⟩, by simp [intOf]; omega⟩
          · refine OW5.out.bytes CB.out ?_ (fun _ _ _ _ h => BoxM.ne h) (fun p hp c f h => NE5.out p hp h.1)
            rintro i o ⟨rfl, _⟩
            exact C3.out.size
          · rw [List.length_append, List.length_singleton]
            show _ = _
            omega
    · have hex : (¬ k < ds.length) ∨ (k < ds.length ∧ ¬ k < 6) := by omega
      have LL := HL.out
      rcases hex with hx | ⟨hx1, hx2⟩
      all_goals
        go_wp2_with fail
        refine (all_any w.heap.size w.heap.size 9 0 l v wr HS.out.2.1 (by omega) (fun p hp => Nat.le_trans (HS.out.2.2.2 p hp) (by omega))).mono ?_
        rintro e w5 ⟨v5, L, rfl, hL, hd, hc5⟩
        have HS5 := Lib.hid (HS.out.chgNo hc5)
        have hl5 : L.length = l.length := by have := congrArg List.length hd; simpa [pdata] using this
        have L6 : Hid (∀ p ∈ L, p.b.length ≤ 6) := by
          intro p hp
          have h1 : (p.to, p.b) ∈ pdata L := List.mem_map.2 ⟨p, hp, rfl⟩
          rw [hd] at h1
          obtain ⟨q, hq, e⟩ := List.mem_map.1 h1
          have := HS.out.2.2.2 q hq
          simp only [Prod.mk.injEq] at e
          rw [← e.2]
          exact this
        have LT5 : Hid (∀ p ∈ l, p.blk < wr.heap.size) := fun p hp => lt_of_blk (HS.out.2.1.2.2.2 p hp)
        have HPL := Lib.hid hL
        obtain ⟨A5, c5, rfl, _, _⟩ := hL.1.slice
        have W0 := Lib.hid HS.out.1.size
        clear hL hd hc5
        have l9 : L.length ≤ 6 := by omega
        clear hl5 LL
        go_wp2_with fail
        go_loopw [11] (fun i wx => ∃ j : Nat, j ≤ L.length ∧ i = .int .i64 j ∧ Hid (Chg (NewB wr.heap.size) w5 wx) ∧ Hid (∀ p ∈ L, U8Row wx p.blk p.b.length)) (fun i _ => L.length - (intOf i).toNat)
        case atStart => exact ⟨0, by omega, rfl, Chg.refl _, fun p hp => U8Row.ofBytes (HPL.out.2.1 p hp)⟩
        case round =>
          obtain ⟨j, hj, rfl, CB, HU⟩ := hrel
          obtain ⟨wo, rfl⟩ : ∃ wo : World, wo = wr := ⟨_, rfl⟩
          by_cases hjl : j < L.length
          · obtain ⟨p, hp⟩ : ∃ p, L[j]? = some p := ⟨_, List.getElem?_eq_getElem hjl⟩
            have hpm := List.mem_of_getElem? hp
            have p6 := L6.out p hpm
            have pB := HPL.out.2.2 p hpm
            obtain ⟨g, cap, hv, hbg, _, _, ⟨cur, hcur, _⟩, hcells⟩ := HPL.out.1.cells (by omega)
            cases hv
            have HCUR := Lib.hid hcur
            have cU := hcur
            clear hcur
            obtain ⟨hq0, hq1⟩ := pcells_at L j p hp
            have q1 := hcells _ _ hq1
            have Q1 := Lib.hid q1
            have i2 : (0 : Int) ≤ (j : Int) := by omega
            have i3 : (j : Int) < (L.length : Int) := by omega
            have q1w : wo.cell? ⟨g, j * 2 + 1, none⟩ = some (.slice (some ⟨p.blk, 0, none⟩) p.b.length p.b.length) := CB.out.cell q1 (fun o ho => by rw [cU] at ho; cases ho; exact NewB.ne (by decide))
            clear hcells hq0 hq1 q1 hp cU q1w
            go_wp2_with fail
            go_loopw [12] (fun i wx => ∃ t : Nat, t ≤ p.b.length ∧ i = .int .i64 t ∧ Hid (Chg (NewB wr.heap.size) w5 wx) ∧ Hid (∀ p ∈ L, U8Row wx p.blk p.b.length)) (fun i _ => p.b.length - (intOf i).toNat)
            case atStart => exact ⟨0, by omega, rfl, CB, HU⟩
            case round =>
              obtain ⟨t, ht, rfl, CC, HV⟩ := hrel
              obtain ⟨wi, rfl⟩ : ∃ wi : World, wi = wr := ⟨_, rfl⟩
              have q1w : wi.cell? ⟨g, j * 2 + 1, none⟩ = some (.slice (some ⟨p.blk, 0, none⟩) p.b.length p.b.length) := CC.out.cell Q1.out (fun o ho => by rw [HCUR.out] at ho; cases ho; exact NewB.ne (by decide))
              by_cases htl : t < p.b.length
              · obtain ⟨z, z0, z1, hz, hf⟩ := (HV.out p hpm).cell t htl
                have i4 : (0 : Int) ≤ (t : Int) := by omega
                have i5 : (t : Int) < (p.b.length : Int) := by omega
                go_wp2_with fail
                refine wp_region_sig 16 (fun w' => Chg NoM wi w') [.P [0, 1, 5, 6, 7, 11], .L [2, 3, 4, 8, 9, 10, 12, 13, 14, 15], .N [16]] rfl (fun _ _ d _ _ h => by cases d <;> exact h) (fun _ h => h) (by kernel_rfl) ((Chg.refl _).drew) ?_
                apply sigP (Nat.le_refl _)
                · intro w'
                  (simp only [wpPl, pickOps, List.filterMap_cons, List.filterMap_nil, List.getElem?_toArray, List.getElem?_cons_zero, List.getElem?_cons_succ]; iterate 6 (go_wp2; refine ⟨trivial, ?_⟩)); rfl
                apply sigL (by simp)
                · intro w' hS
                  have y0 := hS.cellNo q1w
                  have y1 := hS.cellNo hz
                  (simp only [wpPl, pickOps, List.filterMap_cons, List.filterMap_nil, List.getElem?_toArray, List.getElem?_cons_zero, List.getElem?_cons_succ]; iterate 10 (go_wp2; refine ⟨trivial, ?_⟩)); rfl
                apply sigN
                simp only [pickOps, List.filterMap_cons, List.filterMap_nil, List.getElem?_toArray, List.getElem?_cons_zero, List.getElem?_cons_succ]
                go_wp2_with fail
                apply sigEnd
                go_wp2_with fail
                refine ⟨⟨t + 1, by omega, by go_num, ?_, fun q hq => ?_⟩, by simp [intOf]; omega⟩
                · have hb5 := HPL.out.2.1 p hpm
                  exact CC.out.drew.setCell (p := ⟨p.blk, t, none⟩) (fun o ho => ⟨pB, _, _, Option.some.inj (ho.symm.trans hb5)⟩) _
                · exact ((HV.out q hq).chg ((Chg.refl wi).drew (M := NoM)) (fun _ _ h => h)).set _ _ _ (by omega) (by omega)
              · go_wp2_with fail
                exact ⟨⟨j + 1, by omega, by go_num, CC, HV⟩, by simp [intOf]; omega⟩
          · go_wp2_with fail
            have HS6 := Lib.hid (HS5.out.bytes CB.out (fun i o h => Nat.le_trans W0.out h.1) (fun _ _ _ _ h => NewB.ne h) (fun p hp _ _ => NewB.lt (LT5.out p hp)))
            refine (all_any w.heap.size w.heap.size 9 0 l v wo HS6.out.2.1 (by have := HL.out; omega) (fun p hp => Nat.le_trans (HS6.out.2.2.2 p hp) (by omega))).mono ?_
            rintro e w7 ⟨v7, L7, rfl, hL, hd, hc7⟩
            have HS7 := Lib.hid (HS6.out.chgNo hc7)
            have LK := Lib.hid (like_true _ _ v7 (.slice AR (rdata l).length cR) L7 w7 hL.1 hL.2.1 (by rw [rdata_pdata' hd]; exact HS7.out.2.2.1) (fun p hp => by
              have h1 : (p.to, p.b) ∈ pdata L7 := List.mem_map.2 ⟨p, hp, rfl⟩
              rw [hd] at h1
              obtain ⟨q, hq, e⟩ := List.mem_map.1 h1
              have := HS7.out.2.2.2 q hq
              simp only [Prod.mk.injEq] at e
              rw [← e.2]
              omega))
            clear hL hd hc7
            go_wp2_with fail
            refine LK.out.mono ?_
            rintro e w8 ⟨rfl, hc8⟩
            have C8 := Lib.hid hc8
            clear hc8
            go_wp2_with fail
            refine (lives_true _).mono ?_
            rintro e w9 ⟨rfl, hc9⟩
            go_wp2_with fail
            go_ret
            exact ⟨rfl, below_of_chg ((HS7.out.1.trans C8.out).trans hc9)⟩
end Go.Proofs.Ytmkjonfdeolihaa
