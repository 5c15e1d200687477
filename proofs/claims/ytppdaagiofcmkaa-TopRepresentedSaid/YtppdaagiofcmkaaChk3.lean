import Derived.Test.YtppdaagiofcmkaaChk2
/- What the check says at each discriminant, by its residues; and what its counts of forms are. -/
namespace Go.Proofs.Ytppdaagiofcmkaa.Chk
open Go.Proofs.Ytppdaagiofcmkaa.Recip (G S)
def MML : Nat := 304422472739451631870321206656898261790970607086994148394746411072642475890477181030433576078021345950186231836691886420583495087376487591932321420586245625160699419096898645442674365692410354270889685667855758809741959668187663838466905655546801935930899409968173872780635196242279729652919203818517041877554644320906978028208816651058135394349705407236354445551526402725094049298307248059211546518468137815073868399762003047613359032090439009934701100343940912455222224819919584266501478864317189180491505851193279022658154143256242832903515541370177312324452678260334119860413854632206688075484951585075081929996854212216533958158813172046516247608623611195389198257809185051501871297403039959014321652409153942139272295270769905469487212583531113367529995367862235159176699790427316641205005517696403744831603515279873369073144220676263910537744123083927850845230211961457453197866172464258386866668106238571462267098141634183861389904435659060828884260540421710929618648017529595804105062267773322570538132143988859518370607328167982264840772435618422013609128508791697225990058068380153237399978624180999098234260279589231216230954113513950135407059159219879636472660372895589652330845966715937644472874069743699238146713985543906208880718944493709391932244067435914812083357279148469360497253841703091921669634148427367839302612027355943056623614822239042375449897805886380031937039272076559721991563441949902008127130478484527859667866729014320267155381993435030525128635990851500206806319179203492321140559401204880990451399775348088479413365558877464915171557017583676401286350800836537898935767696241314794300767989870711671784062669669151209874157312154961157975804626646537337894468907640393005235422828022810682143774807081639453280942557029629631101633712180952566292362105487060829295593452350604226743922461180440347624407600041101663621286314749834285726342163956789377363977281148353370767381965596297973662109474661004674724264759412647028574837805649790921431532854373930459624753216452400219581853311470465521582414602118393844672040699480855732485989072174260141866711757562739888541440787700072925188456190766294460845650202004172377216013325020216521837736022171353283120502716773346877165001782549539756242121917149167132690407156645970959590188057045717766705431897822098827718871721047608001883067552319566292106620066739814708308544813132488870106284575320015178056935967212515810435190345037359679513795202147754829169132387484672290588263109838608306017154497304921657394775886735748517300070620492826383158842311841235280676914529506928705465964509625350444214491483579593217050281774251379236099282576776651125728058614398287510562820605658343802961713766024581955497022864078015776952463141992525254727174592871599608116950407276421022550452538291315837854254809344063224743055525654582496729474866860473967219357667885207167818029592600523426144750296189588026119275373904690409400696756355950830019731780959676790602828451275825368362925634226179955895126222785554153473
theorem MML_lanes : MML = lanes (fun _ => true) 313 := by
  unfold lanes
  rw [← fsum_S]
  decide +kernel

/-- A mask of period 8, cut. -/
theorem eight_bit {D m : Nat} (hm : m < 256) (hD : D ≤ 10000) : ∀ k, k < D → (dbl D 14 m 8 % 2 ^ D).testBit k = m.testBit (k % 8) := by
  intro k hk
  rw [Nat.testBit_mod_two_pow, decide_eq_true hk, Bool.true_and]
  refine dbl_sound D 8 (fun r => m.testBit r) 14 m 8 (by omega) (Nat.dvd_refl 8) (fun q hq => by rw [Nat.mod_eq_of_lt hq]) (fun q hq => ?_) (by omega) k hk
  exact Nat.testBit_lt_two_pow (Nat.lt_of_lt_of_le hm (Nat.pow_le_pow_right (n := 2) (i := 8) (by omega) hq))

theorem tells_eight {D a b : Nat} (f : Nat → Int) (ha : a < 256) (hb : b < 256) (hD : D ≤ 10000) (hf : ∀ k, f k = f (k % 8))
    (h8 : ∀ r, r < 8 → a.testBit r = decide (f r = 1) ∧ b.testBit r = decide (f r = -1) ∧ (f r = 0 ∨ f r = 1 ∨ f r = -1)) :
    Tells D (dbl D 14 a 8 % 2 ^ D) (dbl D 14 b 8 % 2 ^ D) f := by
  intro k hk
  rw [eight_bit ha hD k hk, eight_bit hb hD k hk, (h8 _ (Nat.mod_lt _ (by omega))).1, (h8 _ (Nat.mod_lt _ (by omega))).2.1]
  simp only [← hf k]
  exact ⟨trivial, trivial, by rw [hf k]; exact (h8 _ (Nat.mod_lt _ (by omega))).2.2⟩

def f4 (k : Nat) : Int := if k % 2 = 0 then 0 else if k % 4 = 1 then 1 else -1
def f8 (k : Nat) : Int := if k % 2 = 0 then 0 else if k % 8 = 1 ∨ k % 8 = 3 then 1 else -1
def f8' (k : Nat) : Int := if k % 2 = 0 then 0 else if k % 8 = 1 ∨ k % 8 = 7 then 1 else -1

theorem chk_sound {D : Nat} (hD : D ≤ 10000) (h : chk MML D = true) :
    (D % 4 = 3 → Nosq D → Says D D 0) ∧ (D % 16 = 4 → Nosq (D / 4) → Says D (D / 4) 1) ∧ (D % 32 = 8 → Nosq (D / 8) → Says D (D / 8) 1) ∧ (D % 32 = 24 → Nosq (D / 8) → Says D (D / 8) 1) := by
  unfold chk at h
  have q1 : Nat.beq (Nat.mod D 4) 3 = decide (D % 4 = 3) := beq_dec _ _
  have q2 : Nat.beq (Nat.mod D 16) 4 = decide (D % 16 = 4) := beq_dec _ _
  have q3 : Nat.beq (Nat.mod D 32) 8 = decide (D % 32 = 8) := beq_dec _ _
  have q4 : Nat.beq (Nat.mod D 32) 24 = decide (D % 32 = 24) := beq_dec _ _
  rw [q1, q2, q3, q4] at h
  have m0 : ∀ x : Nat, x % 2 ^ D < 2 ^ D := fun x => Nat.mod_lt _ (Nat.two_pow_pos D)
  have e4 : ∀ k, f4 k = f4 (k % 8) := fun k => by
    unfold f4
    rw [show k % 8 % 2 = k % 2 from by omega, show k % 8 % 4 = k % 4 from by omega]
  have e8 : ∀ k, f8 k = f8 (k % 8) := fun k => by
    unfold f8
    rw [show k % 8 % 2 = k % 2 from by omega, Nat.mod_mod]
  have e8' : ∀ k, f8' k = f8' (k % 8) := fun k => by
    unfold f8'
    rw [show k % 8 % 2 = k % 2 from by omega, Nat.mod_mod]
  have t4 : Tells D (dbl D 14 34 8 % 2 ^ D) (dbl D 14 136 8 % 2 ^ D) f4 := tells_eight f4 (by omega) (by omega) hD e4 (by decide)
  have t8 : Tells D (dbl D 14 10 8 % 2 ^ D) (dbl D 14 160 8 % 2 ^ D) f8 := tells_eight f8 (by omega) (by omega) hD e8 (by decide)
  have t8' : Tells D (dbl D 14 130 8 % 2 ^ D) (dbl D 14 40 8 % 2 ^ D) f8' := tells_eight f8' (by omega) (by omega) hD e8' (by decide)
  refine ⟨fun c hs => ?_, fun c hs => ?_, fun c hs => ?_, fun c hs => ?_⟩
  · rw [decide_eq_true c, cond] at h
    have hpos := Nat.two_pow_pos D
    refine chk1_sound (fun _ => 1) MML_lanes hD (Nat.le_refl _) (by omega) hs ?_ (show 2 ^ D - 1 < 2 ^ D from by omega) hpos (fun k _ => ?_) h
    · intro k hk
      show (2 ^ D - 1).testBit k = _ ∧ _
      rw [Nat.testBit_two_pow_sub_one, decide_eq_true hk]
      simp
    · unfold T; rw [if_pos c, Int.one_mul]
  · rw [decide_eq_false (show ¬ D % 4 = 3 from by omega), decide_eq_true c, cond, cond, force_eq, force_eq] at h
    refine chk1_sound f4 MML_lanes hD (Nat.div_le_self _ _) (by omega) hs t4 (m0 _) (m0 _) (fun k _ => ?_) h
    unfold T f4
    rw [if_neg (show ¬ D % 4 = 3 from by omega), if_pos c]
    split <;> simp
  · rw [decide_eq_false (show ¬ D % 4 = 3 from by omega), decide_eq_false (show ¬ D % 16 = 4 from by omega), decide_eq_true c, cond, cond, cond, force_eq, force_eq] at h
    refine chk1_sound f8 MML_lanes hD (Nat.div_le_self _ _) (by omega) hs t8 (m0 _) (m0 _) (fun k _ => ?_) h
    unfold T f8
    rw [if_neg (show ¬ D % 4 = 3 from by omega), if_neg (show ¬ D % 16 = 4 from by omega), if_pos c]
    split <;> simp
  · rw [decide_eq_false (show ¬ D % 4 = 3 from by omega), decide_eq_false (show ¬ D % 16 = 4 from by omega), decide_eq_false (show ¬ D % 32 = 8 from by omega), decide_eq_true c, cond, cond, cond, cond, force_eq, force_eq] at h
    refine chk1_sound f8' MML_lanes hD (Nat.div_le_self _ _) (by omega) hs t8' (m0 _) (m0 _) (fun k _ => ?_) h
    unfold T f8'
    rw [if_neg (show ¬ D % 4 = 3 from by omega), if_neg (show ¬ D % 16 = 4 from by omega), if_neg (show ¬ D % 32 = 8 from by omega)]
    split <;> simp

theorem chunk_at {M a n D : Nat} (h : chunk M a n = true) (h1 : a ≤ D) (h2 : D < a + n) : chk M D = true := by
  have := fall_true h (D - a) (by omega)
  rwa [show Nat.add a (D - a) = D from by show a + (D - a) = D; omega] at this

/-! what the counts of forms are -/
def ok (D a b : Nat) : Bool := decide (b % 2 = D % 2) && decide (b ≤ a) && good D a b
def big (D a b : Nat) : Nat := if ok D a b = true then (if amb D a b = true then 1 else 2) else 0
def sml (D a b : Nat) : Nat := if ok D a b = true then (if amb D a b = true then 1 else 0) else 0

theorem good_parity {D a b : Nat} (h : good D a b = true) : b % 2 = D % 2 := by
  obtain ⟨h1, _⟩ := cond_true h
  have h2 : (b * b + D) % (4 * a) = 0 := beq_true h1
  have h3 : (b * b + D) % 2 = 0 := by
    obtain ⟨c, hc⟩ := Nat.dvd_of_mod_eq_zero h2
    rw [hc, show 4 * a * c = 2 * (2 * (a * c)) from by rw [Nat.mul_assoc]; omega]; omega
  have h4 : b * b % 2 = b % 2 := by
    rw [Nat.mul_mod]
    rcases Nat.mod_two_eq_zero_or_one b with hb | hb <;> rw [hb]
  omega

/-- A sum over all b is the sum over those of a parity. -/
theorem S_parity (f : Nat → Nat) (r : Nat) (hr : r < 2) (hf : ∀ b, b % 2 ≠ r → f b = 0) : ∀ n, S f (2 * n) = S (fun b => f (2 * b + r)) n := by
  intro n
  induction n with
  | zero => rfl
  | succ n ih =>
    rw [show 2 * (n + 1) = 2 * n + 1 + 1 from by omega, Recip.S_succ, Recip.S_succ, ih, Recip.S_succ]
    rcases (show r = 0 ∨ r = 1 from by omega) with rfl | rfl
    · rw [hf (2 * n + 1) (by omega)]; rfl
    · rw [hf (2 * n) (by omega)]; omega
/-- A sum whose terms end. -/
theorem S_cut (f : Nat → Nat) (n m : Nat) (h : n ≤ m) (hz : ∀ i, n ≤ i → i < m → f i = 0) : S f m = S f n := by
  obtain ⟨d, rfl⟩ : ∃ d, m = n + d := ⟨m - n, by omega⟩
  induction d with
  | zero => rfl
  | succ d ih => rw [← Nat.add_assoc, Recip.S_succ, ih (by omega) (fun i h1 h2 => hz i h1 (by omega)), hz _ (by omega) (by omega)]; omega

def Hs (D : Nat) : Nat := S (fun a => if 3 * ((a + 1) * (a + 1)) ≤ D then S (big D (a + 1)) (a + 2) else 0) 58
def As (D : Nat) : Nat := S (fun a => if 3 * ((a + 1) * (a + 1)) ≤ D then S (sml D (a + 1)) (a + 2) else 0) 58

theorem inner_sum (D a : Nat) : fsum (fun b => force (Nat.add (Nat.mul 2 b) (Nat.mod D 2)) 0 fun b => cond (Nat.ble b (a+1)) (cond (good D (a+1) b) (cond (amb D (a+1) b) 65537 131072) 0) 0) (Nat.add (Nat.div (a+1) 2) 1)
    = 65536 * S (big D (a + 1)) (a + 2) + S (sml D (a + 1)) (a + 2) := by
  rw [fsum_S, ← Recip.S_mul, ← Recip.S_add]
  have e : ∀ n, a + 2 ≤ n → S (fun j => 65536 * big D (a + 1) j + sml D (a + 1) j) (a + 2) = S (fun j => 65536 * big D (a + 1) j + sml D (a + 1) j) n := by
    intro n hn
    refine (S_cut _ _ _ hn ?_).symm
    intro i h1 h2
    have : ok D (a + 1) i = false := by unfold ok; rw [decide_eq_false (show ¬ i ≤ a + 1 from by omega)]; simp
    unfold big sml; rw [this]; rfl
  rw [e (2 * ((a + 1) / 2 + 1)) (by omega), S_parity _ (D % 2) (by omega)]
  · apply Recip.S_congr
    intro b _
    rw [force_eq]
    show cond (Nat.ble (2 * b + D % 2) (a + 1)) _ 0 = _
    unfold big sml ok
    rw [decide_eq_true (show (2 * b + D % 2) % 2 = D % 2 from by omega), Bool.true_and]
    have hb : Nat.ble (2 * b + D % 2) (a + 1) = decide (2 * b + D % 2 ≤ a + 1) := by
      by_cases hle : 2 * b + D % 2 ≤ a + 1
      · rw [decide_eq_true hle]; exact Nat.ble_eq.mpr hle
      · rw [decide_eq_false hle]; cases hc : Nat.ble (2 * b + D % 2) (a + 1) with | false => rfl | true => exact absurd (Nat.ble_eq.mp hc) hle
    rw [hb]
    show cond _ (cond (good D (a + 1) (2 * b + D % 2)) (cond (amb D (a + 1) (2 * b + D % 2)) 65537 131072) 0) 0 = _
    cases decide (2 * b + D % 2 ≤ a + 1) <;> cases good D (a + 1) (2 * b + D % 2) <;> cases amb D (a + 1) (2 * b + D % 2) <;> rfl
  · intro b hb
    have : ok D (a + 1) b = false := by unfold ok; rw [decide_eq_false hb]; simp
    unfold big sml; rw [this]; rfl

theorem hf_eq (D : Nat) : hf D = 65536 * Hs D + As D := by
  unfold hf Hs As
  rw [fsum_S, ← Recip.S_mul, ← Recip.S_add]
  apply Recip.S_congr
  intro a _
  show cond (Nat.blt D (3 * ((a + 1) * (a + 1)))) _ _ = _
  by_cases h : 3 * ((a + 1) * (a + 1)) ≤ D
  · have hb : Nat.blt D (3 * ((a + 1) * (a + 1))) = false := by
      cases hc : Nat.blt D (3 * ((a + 1) * (a + 1))) with
      | false => rfl
      | true => exact absurd (Nat.blt_eq.mp hc) (by omega)
    rw [hb, if_pos h, if_pos h, cond, inner_sum]
  · have hb : Nat.blt D (3 * ((a + 1) * (a + 1))) = true := Nat.blt_eq.mpr (by omega)
    rw [hb, if_neg h, if_neg h, cond]

theorem As_lt (D : Nat) : As D < 65536 := by
  have h1 : As D ≤ S (fun _ => 60) 58 := by
    unfold As
    apply S_le
    intro a ha
    split
    · have : S (sml D (a + 1)) (a + 2) ≤ S (fun _ => 1) (a + 2) := S_le _ _ _ (fun b _ => by unfold sml; split <;> (try split) <;> omega)
      rw [Recip.S_const] at this
      omega
    · omega
  rw [Recip.S_const] at h1
  omega

theorem hf_div (D : Nat) : hf D / 65536 = Hs D := by have := As_lt D; rw [hf_eq]; omega
theorem hf_mod (D : Nat) : hf D % 65536 = As D := by have := As_lt D; rw [hf_eq]; omega
end Go.Proofs.Ytppdaagiofcmkaa.Chk
