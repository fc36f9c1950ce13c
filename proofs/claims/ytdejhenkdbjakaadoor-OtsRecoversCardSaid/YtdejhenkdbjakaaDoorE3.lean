/- The chapter's examples (law08): another digest's signature leads to another key. -/
import Derived.Test.YtdejhenkdbjakaaDoorE2
set_option linter.unusedVariables false
set_option linter.unusedSimpArgs false
namespace Go.Proofs.YtdejhenkdbjakaaDoor
def endsN : List Nat := [0x77d061f72970cb6d73f96adabb3f5f541c237bb9745fe4798d0b71bb462464e3, 0xa1b3f793674829d8acdd50088af7d16c75210670c1aeefe8271b93697772ce54, 0x57d82c7daa2c0f981200bd62acafddd5646a8523d7740ae0743acc52eba698bf, 0x03945704c5bc2685e668588c65c67872ba251a89839bdba11b960f888e0a0f4a, 0xa08b234beafa405f2a82be46388579f21ec28ba3637f1fc469c5e5f45ffec4e6, 0x2922d3044acad6c06cf98aaa0c48b3d2aafb3c53149a2000cdb7c4f2064d765a, 0x79ac3e99f30b21a798a536c1dfa8492e95c8019b46fa4e537ab76fdedad2f473, 0x1ce7042706ead5b20931b9cbe023f8f1ee31dd3f5cd14b03048569a1a01af76b, 0x9c5acf889f9fba5641eb7629eb968ca0dfe88073fdaa5d794c4a1f240f47cf02, 0xd8e3ad666500cb56989bd85ce46b3262c425cd549ed5d76b384f13a9d75fd64c, 0x26605b1f9ca2420f308ff8d0d066659289a6a231bdbdb7b9945f54b4cd53873c, 0x36300bb008aa9ad26dc39f122fb3c07953f073f4dc32e5a07cd18e5e04fb1de8, 0x104675c05127131f64b565dd08bd1b3b90c7df0a7c45b3f49228478d29b4e08c, 0xfa0c553a0123eb8d6c9c5d5d940153b2cf9ecd6f861586ea092d7bc7c9399795, 0xd9aecf8648ab895cff6c0d6fdfceb3645a045cb01cef866b5a96e4209ec35680, 0x18f0f5b24c047b1e4ddb5c6239a53d101dfe8791708f80d1384c27a96e83b277, 0x65bfc502d8c8ef0d84669ce98826870ef98ae7185ce4b2fff476d42646bf4ebf, 0x384a69be7cb498c3bd13d970497e8dfef82c60d6f7f90a0c94b48cc7eefebf6f, 0x2e270180bf9e3a4355192e4259ac69dd9a5700c915fef7fffe7bc08da069a4b0, 0xdb6c849c885f4d941b2c9feb0d754c54078d4acbc27a18e766f3260031d8c45c, 0x92c361d2a144e58e5972d5fcc36bce0f9c486dddb2e0a1ba9aeb8c5330ce0534, 0x2f14bee0b21aaf018b1472ff9a8ca6904823a139bc84b33c7e50e14c9a0771ae, 0xac794e61570e00e35ba47cff08dea3c74e2bfac3bd7d345810cbd75195b2ba65, 0x0bae7a0ff49ae6445fe38698a13b6237457d415912cc9f93338e7b40e8269032, 0x64cc8604dc4710fab67b7c1b93ba25a1f164e96cf5b0f34fba06022e6e19def9, 0xcc6155000332b253cb8d98d1dde821b30cbb7297ce5ed45a88e9e01fc5c7f70b, 0xead397579905432e027df8aa0da2647a153e78f5a307d0786b0360cf1d5a620d, 0xb7f68965ddc950bd052424dd0b5129d380764cf07f1db0c16e802f72d1dc619b, 0x3d26f28c6c7ccfa572f5e165b8c7853b920d0f478ea2b61da74b3b89d06b515b, 0x2f915cd0cab691c725c7cb9ea2fb6aad625a3158e75240af28e8c4164d8e3ecf, 0x2b59f764eaf3d840a87aab55ccb1353cdccd5e91f3d432d1f0786d8d396d5b4f, 0xfbe0b5b8f8b0544e20611066772adede4683e09d9b919da626c8172c4d702326, 0x1c59185a8adfd741de806a5ba4967471dc33da9822ed3ed9e9f44c7685f424c8, 0x0f389af8098c7c6f20d8cb79fa2b3c19e0c11f950d081458357ad7a441d271f6, 0xb2b3d4ac3e8d968220ce1ccbdced8ed602334dac4ea1a35bd0dc452256cf6a65, 0x4d8aeefb8fbb6373f32904dd2a6a4526cbfe20c6929fbaa8988222a53dc553a8, 0xd5cec211d6cac6565d19166b5fa74c9a68035cb8498634102767638ffc4bb113, 0x93f81bab19dafb11d51af73f10dcf705eb5c4f5ee49bd39b6a89a4b8bcd8ea49, 0x2befcb5cf51335cc1b77c60d082d25306fced7244fe0e11224e455ce5b932f8f, 0xaa55e1279b11ee2bd0b3a40e248e42f4f631a622ddd635ad901100733554063b, 0xc1afc868a0e2c6b51e6aae7bc6d724404f580ca0d2297efd939b8a1b1f0cfc7f, 0x910db59c2c2dad866007437e775675ac9f4526573bc476505ade535794b9231d, 0x8f6fee80642ef2fb16e743842a3bdf05bc8b360d02df13621613d983262d726a, 0xe76ffa1091571d95aaf2e34c490832811792589fff26303d191e120362587718, 0xbffb12506f91c1df3e6b8f98ca1e49454776fabadc4881ca70eef65cab0651d7, 0x199e3c1ed7ce196349c51366afadd5402ccbee2d2dad40e3c0cd5bd8f9dee421, 0xcc60fab1fed2943ad4c1a4df5428ae2c2eb3d52797dbeb1c15d13f1ab136fadd, 0xb167dcefa048266bad4cdff141546f48e7a93ce9a8b5be97477083778e834f7a, 0xb9b540f7a95adcaac1fefc3761dc92d9238b1180ee107c5eadf06ce902cfe256, 0x264078f72835cd14f60477351b6f7cf8a06e44562819c7215544dd37d94d1bd8, 0xe1692b303bb1db563d0375f13f5f4730c2d0f2c033f95294092c82cf65483b7b, 0x723f774d6d454e97429952282f27f6c0c78c3e7d64c1f1ff2442f86981b4aac5, 0x5109851b6f4c824de04ea31ab027431b983c0f5cb4b7b90823ec22f427c37375, 0x06f42632394e6eeb10dfa0b3808fc6fd7ef1b39f848b8b945e4c50355696ed97, 0x038e462b1f7b06ea1e30d8b1438643c1b00b7ece0d87288df5effb14ef1aea70, 0x77581fcf9cd4f98a6689fb5d66fa92dbc6037f99350851ae52a5ce030f89182b, 0xe3d6132e0f1feec85fa0b0eee01f27c0e0501499357d179c61e0269be351555c, 0xdbf6c7816dc55312f24da880ece63112b80becdb066cfbe764a25ac1d6606d86, 0xba29b824726d7e71e32cd4fa3c32f0035a30145a5edfd8950b5e1c7c2071ceb3, 0x5afd468b019c23e426e89a05413cfb363edd06730630bed2021d5558c79578d2, 0x414852476f3f56655b5473fadcc6ad0b85f9ef31a34739068a68f3a100e846bb, 0xe4769a56f364857e8059250184a808e640565918951a4cac47834054c6cd8060, 0xe1d821c5ae8cc5ebf63dd3864148ce4272f9cf589cfb6053341a820873ae79f7, 0xe6b3ae22de1edc6fd27d4a229801e79169b0bca9d1ca6ecf573f0aeaca2c05d8, 0xffadc9afcc181dd6f830904ad36ace3a9f53ddb6c30de67e399a2bd9654d165e, 0xb089bf416adf3e0c216d8ddf8c1b458a54e82ff7e1a0574c9faa94d9a8a9d70c, 0xeca6f2dc72684288f26191ba63fa9c3b612d1d3e396427363729c8c071908f83]
def endsM : List Nat := [0x77d061f72970cb6d73f96adabb3f5f541c237bb9745fe4798d0b71bb462464e3, 0x0b209eb5b1db7e6408db60e35b446dc0c76056717bf8421fe010c022640bd737, 0x57d82c7daa2c0f981200bd62acafddd5646a8523d7740ae0743acc52eba698bf, 0x03945704c5bc2685e668588c65c67872ba251a89839bdba11b960f888e0a0f4a, 0xa08b234beafa405f2a82be46388579f21ec28ba3637f1fc469c5e5f45ffec4e6, 0x2922d3044acad6c06cf98aaa0c48b3d2aafb3c53149a2000cdb7c4f2064d765a, 0x79ac3e99f30b21a798a536c1dfa8492e95c8019b46fa4e537ab76fdedad2f473, 0x1ce7042706ead5b20931b9cbe023f8f1ee31dd3f5cd14b03048569a1a01af76b, 0x9c5acf889f9fba5641eb7629eb968ca0dfe88073fdaa5d794c4a1f240f47cf02, 0xd8e3ad666500cb56989bd85ce46b3262c425cd549ed5d76b384f13a9d75fd64c, 0x26605b1f9ca2420f308ff8d0d066659289a6a231bdbdb7b9945f54b4cd53873c, 0x36300bb008aa9ad26dc39f122fb3c07953f073f4dc32e5a07cd18e5e04fb1de8, 0x104675c05127131f64b565dd08bd1b3b90c7df0a7c45b3f49228478d29b4e08c, 0xfa0c553a0123eb8d6c9c5d5d940153b2cf9ecd6f861586ea092d7bc7c9399795, 0xd9aecf8648ab895cff6c0d6fdfceb3645a045cb01cef866b5a96e4209ec35680, 0x18f0f5b24c047b1e4ddb5c6239a53d101dfe8791708f80d1384c27a96e83b277, 0x65bfc502d8c8ef0d84669ce98826870ef98ae7185ce4b2fff476d42646bf4ebf, 0x384a69be7cb498c3bd13d970497e8dfef82c60d6f7f90a0c94b48cc7eefebf6f, 0x2e270180bf9e3a4355192e4259ac69dd9a5700c915fef7fffe7bc08da069a4b0, 0xdb6c849c885f4d941b2c9feb0d754c54078d4acbc27a18e766f3260031d8c45c, 0x92c361d2a144e58e5972d5fcc36bce0f9c486dddb2e0a1ba9aeb8c5330ce0534, 0x2f14bee0b21aaf018b1472ff9a8ca6904823a139bc84b33c7e50e14c9a0771ae, 0xac794e61570e00e35ba47cff08dea3c74e2bfac3bd7d345810cbd75195b2ba65, 0x0bae7a0ff49ae6445fe38698a13b6237457d415912cc9f93338e7b40e8269032, 0x64cc8604dc4710fab67b7c1b93ba25a1f164e96cf5b0f34fba06022e6e19def9, 0xcc6155000332b253cb8d98d1dde821b30cbb7297ce5ed45a88e9e01fc5c7f70b, 0xead397579905432e027df8aa0da2647a153e78f5a307d0786b0360cf1d5a620d, 0xb7f68965ddc950bd052424dd0b5129d380764cf07f1db0c16e802f72d1dc619b, 0x3d26f28c6c7ccfa572f5e165b8c7853b920d0f478ea2b61da74b3b89d06b515b, 0x2f915cd0cab691c725c7cb9ea2fb6aad625a3158e75240af28e8c4164d8e3ecf, 0x2b59f764eaf3d840a87aab55ccb1353cdccd5e91f3d432d1f0786d8d396d5b4f, 0xfbe0b5b8f8b0544e20611066772adede4683e09d9b919da626c8172c4d702326, 0x1c59185a8adfd741de806a5ba4967471dc33da9822ed3ed9e9f44c7685f424c8, 0x0f389af8098c7c6f20d8cb79fa2b3c19e0c11f950d081458357ad7a441d271f6, 0xb2b3d4ac3e8d968220ce1ccbdced8ed602334dac4ea1a35bd0dc452256cf6a65, 0x4d8aeefb8fbb6373f32904dd2a6a4526cbfe20c6929fbaa8988222a53dc553a8, 0xd5cec211d6cac6565d19166b5fa74c9a68035cb8498634102767638ffc4bb113, 0x93f81bab19dafb11d51af73f10dcf705eb5c4f5ee49bd39b6a89a4b8bcd8ea49, 0x2befcb5cf51335cc1b77c60d082d25306fced7244fe0e11224e455ce5b932f8f, 0xaa55e1279b11ee2bd0b3a40e248e42f4f631a622ddd635ad901100733554063b, 0xc1afc868a0e2c6b51e6aae7bc6d724404f580ca0d2297efd939b8a1b1f0cfc7f, 0x910db59c2c2dad866007437e775675ac9f4526573bc476505ade535794b9231d, 0x8f6fee80642ef2fb16e743842a3bdf05bc8b360d02df13621613d983262d726a, 0xe76ffa1091571d95aaf2e34c490832811792589fff26303d191e120362587718, 0xbffb12506f91c1df3e6b8f98ca1e49454776fabadc4881ca70eef65cab0651d7, 0x199e3c1ed7ce196349c51366afadd5402ccbee2d2dad40e3c0cd5bd8f9dee421, 0xcc60fab1fed2943ad4c1a4df5428ae2c2eb3d52797dbeb1c15d13f1ab136fadd, 0xb167dcefa048266bad4cdff141546f48e7a93ce9a8b5be97477083778e834f7a, 0xb9b540f7a95adcaac1fefc3761dc92d9238b1180ee107c5eadf06ce902cfe256, 0x264078f72835cd14f60477351b6f7cf8a06e44562819c7215544dd37d94d1bd8, 0xe1692b303bb1db563d0375f13f5f4730c2d0f2c033f95294092c82cf65483b7b, 0x723f774d6d454e97429952282f27f6c0c78c3e7d64c1f1ff2442f86981b4aac5, 0x5109851b6f4c824de04ea31ab027431b983c0f5cb4b7b90823ec22f427c37375, 0x06f42632394e6eeb10dfa0b3808fc6fd7ef1b39f848b8b945e4c50355696ed97, 0x038e462b1f7b06ea1e30d8b1438643c1b00b7ece0d87288df5effb14ef1aea70, 0x77581fcf9cd4f98a6689fb5d66fa92dbc6037f99350851ae52a5ce030f89182b, 0xe3d6132e0f1feec85fa0b0eee01f27c0e0501499357d179c61e0269be351555c, 0xdbf6c7816dc55312f24da880ece63112b80becdb066cfbe764a25ac1d6606d86, 0xba29b824726d7e71e32cd4fa3c32f0035a30145a5edfd8950b5e1c7c2071ceb3, 0x5afd468b019c23e426e89a05413cfb363edd06730630bed2021d5558c79578d2, 0x414852476f3f56655b5473fadcc6ad0b85f9ef31a34739068a68f3a100e846bb, 0xe4769a56f364857e8059250184a808e640565918951a4cac47834054c6cd8060, 0xe1d821c5ae8cc5ebf63dd3864148ce4272f9cf589cfb6053341a820873ae79f7, 0xe6b3ae22de1edc6fd27d4a229801e79169b0bca9d1ca6ecf573f0aeaca2c05d8, 0xffadc9afcc181dd6f830904ad36ace3a9f53ddb6c30de67e399a2bd9654d165e, 0xb089bf416adf3e0c216d8ddf8c1b458a54e82ff7e1a0574c9faa94d9a8a9d70c, 0x462c25d1aa6df3137975200279419d459c04901a9e847a819cdff3414e369adf]
def listE (l : List Nat) : List Nat := tgL ++ (l.map fun V => highL V 32).flatten
theorem bigP : Nat.beq (shaE (listE endsN)) 0x03066fd8ab2e1f888050c70b848a85740b6610dd48038e16ae6e440d3669f860 = true := by decide +kernel
theorem bigQ : Nat.beq (shaE (listE endsM)) 0x937909c8240a62762ea29b64d00ddddbf3bafa5ec6e1c376280eb825859e1556 = true := by decide +kernel
theorem endK_list (K : Nat → Nat → Nat) (l : List Nat) (n : Nat) (hl : l.length = n) (h : ∀ k, k < n → kl (K k) = highL (l.getD k 0) 32) : endK (oneF 2) K n = listE l := by
  rw [endK_eq, endsL, tgL_eq, listE]
  congr 2
  rw [List.map_map]
  refine List.ext_getElem? fun i => ?_
  rcases Nat.lt_or_ge i n with hi | hi
  · rw [List.getElem?_map, List.getElem?_range hi, List.getElem?_map, List.getElem?_eq_getElem (by omega)]
    have := h i hi
    rw [List.getD_eq_getElem?_getD, List.getElem?_eq_getElem (by omega), Option.getD_some] at this
    exact congrArg some this
  · rw [List.getElem?_eq_none (by simp; omega), List.getElem?_eq_none (by simp; omega)]
theorem upto {P : Nat → Prop} (n : Nat) (h : ∀ k, k < n → P k) (hn : P n) : ∀ k, k < n + 1 → P k := fun k hk => (Nat.lt_or_ge k n).elim (h k) fun h2 => Nat.le_antisymm h2 (Nat.le_of_lt_succ hk) ▸ hn
def AtN (k : Nat) : Prop := pbE k = endsN.getD k 0
theorem at_of (k V : Nat) (h : Nat.beq (pbE k) V = true) (h2 : Nat.beq (endsN.getD k 0) V = true) : AtN k := (Nat.eq_of_beq_eq_true h).trans (Nat.eq_of_beq_eq_true h2).symm
theorem an0 : AtN 0 := at_of 0 0x77d061f72970cb6d73f96adabb3f5f541c237bb9745fe4798d0b71bb462464e3 en0 (by decide +kernel)
theorem an1 : AtN 1 := at_of 1 0xa1b3f793674829d8acdd50088af7d16c75210670c1aeefe8271b93697772ce54 en1 (by decide +kernel)
theorem an2 : AtN 2 := at_of 2 0x57d82c7daa2c0f981200bd62acafddd5646a8523d7740ae0743acc52eba698bf en2 (by decide +kernel)
theorem an3 : AtN 3 := at_of 3 0x03945704c5bc2685e668588c65c67872ba251a89839bdba11b960f888e0a0f4a en3 (by decide +kernel)
theorem an4 : AtN 4 := at_of 4 0xa08b234beafa405f2a82be46388579f21ec28ba3637f1fc469c5e5f45ffec4e6 en4 (by decide +kernel)
theorem an5 : AtN 5 := at_of 5 0x2922d3044acad6c06cf98aaa0c48b3d2aafb3c53149a2000cdb7c4f2064d765a en5 (by decide +kernel)
theorem an6 : AtN 6 := at_of 6 0x79ac3e99f30b21a798a536c1dfa8492e95c8019b46fa4e537ab76fdedad2f473 en6 (by decide +kernel)
theorem an7 : AtN 7 := at_of 7 0x1ce7042706ead5b20931b9cbe023f8f1ee31dd3f5cd14b03048569a1a01af76b en7 (by decide +kernel)
theorem an8 : AtN 8 := at_of 8 0x9c5acf889f9fba5641eb7629eb968ca0dfe88073fdaa5d794c4a1f240f47cf02 en8 (by decide +kernel)
theorem an9 : AtN 9 := at_of 9 0xd8e3ad666500cb56989bd85ce46b3262c425cd549ed5d76b384f13a9d75fd64c en9 (by decide +kernel)
theorem an10 : AtN 10 := at_of 10 0x26605b1f9ca2420f308ff8d0d066659289a6a231bdbdb7b9945f54b4cd53873c en10 (by decide +kernel)
theorem an11 : AtN 11 := at_of 11 0x36300bb008aa9ad26dc39f122fb3c07953f073f4dc32e5a07cd18e5e04fb1de8 en11 (by decide +kernel)
theorem an12 : AtN 12 := at_of 12 0x104675c05127131f64b565dd08bd1b3b90c7df0a7c45b3f49228478d29b4e08c en12 (by decide +kernel)
theorem an13 : AtN 13 := at_of 13 0xfa0c553a0123eb8d6c9c5d5d940153b2cf9ecd6f861586ea092d7bc7c9399795 en13 (by decide +kernel)
theorem an14 : AtN 14 := at_of 14 0xd9aecf8648ab895cff6c0d6fdfceb3645a045cb01cef866b5a96e4209ec35680 en14 (by decide +kernel)
theorem an15 : AtN 15 := at_of 15 0x18f0f5b24c047b1e4ddb5c6239a53d101dfe8791708f80d1384c27a96e83b277 en15 (by decide +kernel)
theorem an16 : AtN 16 := at_of 16 0x65bfc502d8c8ef0d84669ce98826870ef98ae7185ce4b2fff476d42646bf4ebf en16 (by decide +kernel)
theorem an17 : AtN 17 := at_of 17 0x384a69be7cb498c3bd13d970497e8dfef82c60d6f7f90a0c94b48cc7eefebf6f en17 (by decide +kernel)
theorem an18 : AtN 18 := at_of 18 0x2e270180bf9e3a4355192e4259ac69dd9a5700c915fef7fffe7bc08da069a4b0 en18 (by decide +kernel)
theorem an19 : AtN 19 := at_of 19 0xdb6c849c885f4d941b2c9feb0d754c54078d4acbc27a18e766f3260031d8c45c en19 (by decide +kernel)
theorem an20 : AtN 20 := at_of 20 0x92c361d2a144e58e5972d5fcc36bce0f9c486dddb2e0a1ba9aeb8c5330ce0534 en20 (by decide +kernel)
theorem an21 : AtN 21 := at_of 21 0x2f14bee0b21aaf018b1472ff9a8ca6904823a139bc84b33c7e50e14c9a0771ae en21 (by decide +kernel)
theorem an22 : AtN 22 := at_of 22 0xac794e61570e00e35ba47cff08dea3c74e2bfac3bd7d345810cbd75195b2ba65 en22 (by decide +kernel)
theorem an23 : AtN 23 := at_of 23 0x0bae7a0ff49ae6445fe38698a13b6237457d415912cc9f93338e7b40e8269032 en23 (by decide +kernel)
theorem an24 : AtN 24 := at_of 24 0x64cc8604dc4710fab67b7c1b93ba25a1f164e96cf5b0f34fba06022e6e19def9 en24 (by decide +kernel)
theorem an25 : AtN 25 := at_of 25 0xcc6155000332b253cb8d98d1dde821b30cbb7297ce5ed45a88e9e01fc5c7f70b en25 (by decide +kernel)
theorem an26 : AtN 26 := at_of 26 0xead397579905432e027df8aa0da2647a153e78f5a307d0786b0360cf1d5a620d en26 (by decide +kernel)
theorem an27 : AtN 27 := at_of 27 0xb7f68965ddc950bd052424dd0b5129d380764cf07f1db0c16e802f72d1dc619b en27 (by decide +kernel)
theorem an28 : AtN 28 := at_of 28 0x3d26f28c6c7ccfa572f5e165b8c7853b920d0f478ea2b61da74b3b89d06b515b en28 (by decide +kernel)
theorem an29 : AtN 29 := at_of 29 0x2f915cd0cab691c725c7cb9ea2fb6aad625a3158e75240af28e8c4164d8e3ecf en29 (by decide +kernel)
theorem an30 : AtN 30 := at_of 30 0x2b59f764eaf3d840a87aab55ccb1353cdccd5e91f3d432d1f0786d8d396d5b4f en30 (by decide +kernel)
theorem an31 : AtN 31 := at_of 31 0xfbe0b5b8f8b0544e20611066772adede4683e09d9b919da626c8172c4d702326 en31 (by decide +kernel)
theorem an32 : AtN 32 := at_of 32 0x1c59185a8adfd741de806a5ba4967471dc33da9822ed3ed9e9f44c7685f424c8 en32 (by decide +kernel)
theorem an33 : AtN 33 := at_of 33 0x0f389af8098c7c6f20d8cb79fa2b3c19e0c11f950d081458357ad7a441d271f6 en33 (by decide +kernel)
theorem an34 : AtN 34 := at_of 34 0xb2b3d4ac3e8d968220ce1ccbdced8ed602334dac4ea1a35bd0dc452256cf6a65 en34 (by decide +kernel)
theorem an35 : AtN 35 := at_of 35 0x4d8aeefb8fbb6373f32904dd2a6a4526cbfe20c6929fbaa8988222a53dc553a8 en35 (by decide +kernel)
theorem an36 : AtN 36 := at_of 36 0xd5cec211d6cac6565d19166b5fa74c9a68035cb8498634102767638ffc4bb113 en36 (by decide +kernel)
theorem an37 : AtN 37 := at_of 37 0x93f81bab19dafb11d51af73f10dcf705eb5c4f5ee49bd39b6a89a4b8bcd8ea49 en37 (by decide +kernel)
theorem an38 : AtN 38 := at_of 38 0x2befcb5cf51335cc1b77c60d082d25306fced7244fe0e11224e455ce5b932f8f en38 (by decide +kernel)
theorem an39 : AtN 39 := at_of 39 0xaa55e1279b11ee2bd0b3a40e248e42f4f631a622ddd635ad901100733554063b en39 (by decide +kernel)
theorem an40 : AtN 40 := at_of 40 0xc1afc868a0e2c6b51e6aae7bc6d724404f580ca0d2297efd939b8a1b1f0cfc7f en40 (by decide +kernel)
theorem an41 : AtN 41 := at_of 41 0x910db59c2c2dad866007437e775675ac9f4526573bc476505ade535794b9231d en41 (by decide +kernel)
theorem an42 : AtN 42 := at_of 42 0x8f6fee80642ef2fb16e743842a3bdf05bc8b360d02df13621613d983262d726a en42 (by decide +kernel)
theorem an43 : AtN 43 := at_of 43 0xe76ffa1091571d95aaf2e34c490832811792589fff26303d191e120362587718 en43 (by decide +kernel)
theorem an44 : AtN 44 := at_of 44 0xbffb12506f91c1df3e6b8f98ca1e49454776fabadc4881ca70eef65cab0651d7 en44 (by decide +kernel)
theorem an45 : AtN 45 := at_of 45 0x199e3c1ed7ce196349c51366afadd5402ccbee2d2dad40e3c0cd5bd8f9dee421 en45 (by decide +kernel)
theorem an46 : AtN 46 := at_of 46 0xcc60fab1fed2943ad4c1a4df5428ae2c2eb3d52797dbeb1c15d13f1ab136fadd en46 (by decide +kernel)
theorem an47 : AtN 47 := at_of 47 0xb167dcefa048266bad4cdff141546f48e7a93ce9a8b5be97477083778e834f7a en47 (by decide +kernel)
theorem an48 : AtN 48 := at_of 48 0xb9b540f7a95adcaac1fefc3761dc92d9238b1180ee107c5eadf06ce902cfe256 en48 (by decide +kernel)
theorem an49 : AtN 49 := at_of 49 0x264078f72835cd14f60477351b6f7cf8a06e44562819c7215544dd37d94d1bd8 en49 (by decide +kernel)
theorem an50 : AtN 50 := at_of 50 0xe1692b303bb1db563d0375f13f5f4730c2d0f2c033f95294092c82cf65483b7b en50 (by decide +kernel)
theorem an51 : AtN 51 := at_of 51 0x723f774d6d454e97429952282f27f6c0c78c3e7d64c1f1ff2442f86981b4aac5 en51 (by decide +kernel)
theorem an52 : AtN 52 := at_of 52 0x5109851b6f4c824de04ea31ab027431b983c0f5cb4b7b90823ec22f427c37375 en52 (by decide +kernel)
theorem an53 : AtN 53 := at_of 53 0x06f42632394e6eeb10dfa0b3808fc6fd7ef1b39f848b8b945e4c50355696ed97 en53 (by decide +kernel)
theorem an54 : AtN 54 := at_of 54 0x038e462b1f7b06ea1e30d8b1438643c1b00b7ece0d87288df5effb14ef1aea70 en54 (by decide +kernel)
theorem an55 : AtN 55 := at_of 55 0x77581fcf9cd4f98a6689fb5d66fa92dbc6037f99350851ae52a5ce030f89182b en55 (by decide +kernel)
theorem an56 : AtN 56 := at_of 56 0xe3d6132e0f1feec85fa0b0eee01f27c0e0501499357d179c61e0269be351555c en56 (by decide +kernel)
theorem an57 : AtN 57 := at_of 57 0xdbf6c7816dc55312f24da880ece63112b80becdb066cfbe764a25ac1d6606d86 en57 (by decide +kernel)
theorem an58 : AtN 58 := at_of 58 0xba29b824726d7e71e32cd4fa3c32f0035a30145a5edfd8950b5e1c7c2071ceb3 en58 (by decide +kernel)
theorem an59 : AtN 59 := at_of 59 0x5afd468b019c23e426e89a05413cfb363edd06730630bed2021d5558c79578d2 en59 (by decide +kernel)
theorem an60 : AtN 60 := at_of 60 0x414852476f3f56655b5473fadcc6ad0b85f9ef31a34739068a68f3a100e846bb en60 (by decide +kernel)
theorem an61 : AtN 61 := at_of 61 0xe4769a56f364857e8059250184a808e640565918951a4cac47834054c6cd8060 en61 (by decide +kernel)
theorem an62 : AtN 62 := at_of 62 0xe1d821c5ae8cc5ebf63dd3864148ce4272f9cf589cfb6053341a820873ae79f7 en62 (by decide +kernel)
theorem an63 : AtN 63 := at_of 63 0xe6b3ae22de1edc6fd27d4a229801e79169b0bca9d1ca6ecf573f0aeaca2c05d8 en63 (by decide +kernel)
theorem an64 : AtN 64 := at_of 64 0xffadc9afcc181dd6f830904ad36ace3a9f53ddb6c30de67e399a2bd9654d165e en64 (by decide +kernel)
theorem an65 : AtN 65 := at_of 65 0xb089bf416adf3e0c216d8ddf8c1b458a54e82ff7e1a0574c9faa94d9a8a9d70c en65 (by decide +kernel)
theorem an66 : AtN 66 := at_of 66 0xeca6f2dc72684288f26191ba63fa9c3b612d1d3e396427363729c8c071908f83 en66 (by decide +kernel)
theorem uq0 : ∀ k, k < 0 → AtN k := fun k hk => absurd hk (Nat.not_lt_zero k)
theorem uq1 : ∀ k, k < 1 → AtN k := upto 0 uq0 an0
theorem uq2 : ∀ k, k < 2 → AtN k := upto 1 uq1 an1
theorem uq3 : ∀ k, k < 3 → AtN k := upto 2 uq2 an2
theorem uq4 : ∀ k, k < 4 → AtN k := upto 3 uq3 an3
theorem uq5 : ∀ k, k < 5 → AtN k := upto 4 uq4 an4
theorem uq6 : ∀ k, k < 6 → AtN k := upto 5 uq5 an5
theorem uq7 : ∀ k, k < 7 → AtN k := upto 6 uq6 an6
theorem uq8 : ∀ k, k < 8 → AtN k := upto 7 uq7 an7
theorem uq9 : ∀ k, k < 9 → AtN k := upto 8 uq8 an8
theorem uq10 : ∀ k, k < 10 → AtN k := upto 9 uq9 an9
theorem uq11 : ∀ k, k < 11 → AtN k := upto 10 uq10 an10
theorem uq12 : ∀ k, k < 12 → AtN k := upto 11 uq11 an11
theorem uq13 : ∀ k, k < 13 → AtN k := upto 12 uq12 an12
theorem uq14 : ∀ k, k < 14 → AtN k := upto 13 uq13 an13
theorem uq15 : ∀ k, k < 15 → AtN k := upto 14 uq14 an14
theorem uq16 : ∀ k, k < 16 → AtN k := upto 15 uq15 an15
theorem uq17 : ∀ k, k < 17 → AtN k := upto 16 uq16 an16
theorem uq18 : ∀ k, k < 18 → AtN k := upto 17 uq17 an17
theorem uq19 : ∀ k, k < 19 → AtN k := upto 18 uq18 an18
theorem uq20 : ∀ k, k < 20 → AtN k := upto 19 uq19 an19
theorem uq21 : ∀ k, k < 21 → AtN k := upto 20 uq20 an20
theorem uq22 : ∀ k, k < 22 → AtN k := upto 21 uq21 an21
theorem uq23 : ∀ k, k < 23 → AtN k := upto 22 uq22 an22
theorem uq24 : ∀ k, k < 24 → AtN k := upto 23 uq23 an23
theorem uq25 : ∀ k, k < 25 → AtN k := upto 24 uq24 an24
theorem uq26 : ∀ k, k < 26 → AtN k := upto 25 uq25 an25
theorem uq27 : ∀ k, k < 27 → AtN k := upto 26 uq26 an26
theorem uq28 : ∀ k, k < 28 → AtN k := upto 27 uq27 an27
theorem uq29 : ∀ k, k < 29 → AtN k := upto 28 uq28 an28
theorem uq30 : ∀ k, k < 30 → AtN k := upto 29 uq29 an29
theorem uq31 : ∀ k, k < 31 → AtN k := upto 30 uq30 an30
theorem uq32 : ∀ k, k < 32 → AtN k := upto 31 uq31 an31
theorem uq33 : ∀ k, k < 33 → AtN k := upto 32 uq32 an32
theorem uq34 : ∀ k, k < 34 → AtN k := upto 33 uq33 an33
theorem uq35 : ∀ k, k < 35 → AtN k := upto 34 uq34 an34
theorem uq36 : ∀ k, k < 36 → AtN k := upto 35 uq35 an35
theorem uq37 : ∀ k, k < 37 → AtN k := upto 36 uq36 an36
theorem uq38 : ∀ k, k < 38 → AtN k := upto 37 uq37 an37
theorem uq39 : ∀ k, k < 39 → AtN k := upto 38 uq38 an38
theorem uq40 : ∀ k, k < 40 → AtN k := upto 39 uq39 an39
theorem uq41 : ∀ k, k < 41 → AtN k := upto 40 uq40 an40
theorem uq42 : ∀ k, k < 42 → AtN k := upto 41 uq41 an41
theorem uq43 : ∀ k, k < 43 → AtN k := upto 42 uq42 an42
theorem uq44 : ∀ k, k < 44 → AtN k := upto 43 uq43 an43
theorem uq45 : ∀ k, k < 45 → AtN k := upto 44 uq44 an44
theorem uq46 : ∀ k, k < 46 → AtN k := upto 45 uq45 an45
theorem uq47 : ∀ k, k < 47 → AtN k := upto 46 uq46 an46
theorem uq48 : ∀ k, k < 48 → AtN k := upto 47 uq47 an47
theorem uq49 : ∀ k, k < 49 → AtN k := upto 48 uq48 an48
theorem uq50 : ∀ k, k < 50 → AtN k := upto 49 uq49 an49
theorem uq51 : ∀ k, k < 51 → AtN k := upto 50 uq50 an50
theorem uq52 : ∀ k, k < 52 → AtN k := upto 51 uq51 an51
theorem uq53 : ∀ k, k < 53 → AtN k := upto 52 uq52 an52
theorem uq54 : ∀ k, k < 54 → AtN k := upto 53 uq53 an53
theorem uq55 : ∀ k, k < 55 → AtN k := upto 54 uq54 an54
theorem uq56 : ∀ k, k < 56 → AtN k := upto 55 uq55 an55
theorem uq57 : ∀ k, k < 57 → AtN k := upto 56 uq56 an56
theorem uq58 : ∀ k, k < 58 → AtN k := upto 57 uq57 an57
theorem uq59 : ∀ k, k < 59 → AtN k := upto 58 uq58 an58
theorem uq60 : ∀ k, k < 60 → AtN k := upto 59 uq59 an59
theorem uq61 : ∀ k, k < 61 → AtN k := upto 60 uq60 an60
theorem uq62 : ∀ k, k < 62 → AtN k := upto 61 uq61 an61
theorem uq63 : ∀ k, k < 63 → AtN k := upto 62 uq62 an62
theorem uq64 : ∀ k, k < 64 → AtN k := upto 63 uq63 an63
theorem uq65 : ∀ k, k < 65 → AtN k := upto 64 uq64 an64
theorem uq66 : ∀ k, k < 66 → AtN k := upto 65 uq65 an65
theorem uq67 : ∀ k, k < 67 → AtN k := upto 66 uq66 an66
theorem at_n : ∀ k, k < 67 → pbE k = endsN.getD k 0 := uq67
theorem dig_same : ∀ k, k < 67 → k ≠ 1 → k ≠ 66 → (digL (oneF 4)).getD k 0 = (digL (oneF 3)).getD k 0 ∧ endsM.getD k 0 = endsN.getD k 0 := by decide +kernel
theorem dg3_1 : (digL (oneF 3)).getD 1 0 = 3 := by decide +kernel
theorem dg4_1 : (digL (oneF 4)).getD 1 0 = 4 := by decide +kernel
theorem dg3_66 : (digL (oneF 3)).getD 66 0 = 13 := by decide +kernel
theorem dg4_66 : (digL (oneF 4)).getD 66 0 = 12 := by decide +kernel
theorem one_lt (c : Nat) (h : c < 256) : ∀ i, i < 32 → oneF c i < 256 := fun i _ => oneF_lt h i
theorem end_n : endK (oneF 2) (pbK (oneF 1) (oneF 2)) 67 = listE endsN := endK_list _ _ 67 (by decide) fun k hk => by
  rw [← pbE_spec k (by omega), at_n k hk]
theorem end_m : endK (oneF 2) (rcK (oneF 2) (oneF 4) (sgK (oneF 1) (oneF 2) (oneF 3))) 67 = listE endsM := endK_list _ _ 67 (by decide) fun k hk => by
  by_cases h1 : k = 1
  · subst h1
    have e : rcK (oneF 2) (oneF 4) (sgK (oneF 1) (oneF 2) (oneF 3)) 1 = alF (oneF 2) ((1 : Nat) : Int) ((4 : Nat) : Int) (alF (oneF 2) ((1 : Nat) : Int) 0 (begF (oneF 1) ((1 : Nat) : Int)) 3) 11 := by
      unfold rcK sgK
      rw [dg3_1, dg4_1]
    rw [e, ← twE_spec 1 3 4 11 (by omega) (by omega) (by omega), Nat.eq_of_beq_eq_true ez1]
    rfl
  · by_cases h2 : k = 66
    · subst h2
      have e : rcK (oneF 2) (oneF 4) (sgK (oneF 1) (oneF 2) (oneF 3)) 66 = alF (oneF 2) ((66 : Nat) : Int) ((12 : Nat) : Int) (alF (oneF 2) ((66 : Nat) : Int) 0 (begF (oneF 1) ((66 : Nat) : Int)) 13) 3 := by
        unfold rcK sgK
        rw [dg3_66, dg4_66]
      rw [e, ← twE_spec 66 13 12 3 (by omega) (by omega) (by omega), Nat.eq_of_beq_eq_true ez66]
      rfl
    · obtain ⟨e1, e2⟩ := dig_same k hk h1 h2
      have e : rcK (oneF 2) (oneF 4) (sgK (oneF 1) (oneF 2) (oneF 3)) k = pbK (oneF 1) (oneF 2) k := by
        unfold rcK sgK
        rw [e1]
        exact al_split (oneF 2) k (begF (oneF 1) k) (digD_lt (one_lt 3 (by omega)) k)
      rw [e, e2, ← pbE_spec k (by omega), at_n k hk]
theorem kl_inj {f g : Nat → Nat} (h : ∀ i, i < 32 → f i = g i) : kl f = kl g := List.map_congr_left fun i hi => h i (List.mem_range.1 hi)
theorem awake_ne : ¬ ∀ i, i < 32 → shaK (endK (oneF 2) (rcK (oneF 2) (oneF 4) (sgK (oneF 1) (oneF 2) (oneF 3))) 67) i = shaK (endK (oneF 2) (pbK (oneF 1) (oneF 2)) 67) i := fun h => by
  have h1 := kl_inj h
  rw [end_n, end_m, ← shaE_bytes, ← shaE_bytes, Nat.eq_of_beq_eq_true bigP, Nat.eq_of_beq_eq_true bigQ] at h1
  revert h1
  decide +kernel
end Go.Proofs.YtdejhenkdbjakaaDoor
